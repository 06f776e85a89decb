/-
  DERIVED. GIVEN WITH THE SEED: THE CARDS: each row of YtkbpbagjbjkpmaaGreatDoorRows.lean that lists a variable, with what it lists TIED to the program's text (the seventh form; the later family's looks); each row that meets fmt, with fmt's text TOLD by the authors' own Lean function (tested against real Go, not proved from fmt's source: count such statements apart). THE CARD IS WHAT COUNTS. Prove the row's statement (the work); the ties are given (YtkbpbagjbjkpmaaGreatDoorTie.lean); close each card by the builder's one call (the guide's Derived/Test/ToyasCard.lean, 'card_holds'). Laid BY PROGRAM, IN A SANDBOX (cutbox-door.mjs). By AI agents, Wed Nov 11 2026. No macro, syntax, notation, axiom, sorry.
-/
import Derived.Test.YtkbpbagjbjkpmaaGreatDoorRows
import GoSem.ClaimSeven
namespace Go.Proofs.YtkbpbagjbjkpmaaGreatDoor
namespace Rows

/-- THE TIED CARD OF 'conchlaw03.ArithValues'. -/
def arithValuesCard : Claim7 := { stood := { row := arithValuesRow, standIns := [], harness := (true, "3c54021a45a87e01a0e396ce7c9517123a9a7e0f7cfb1f517a6fafad8639436a"), looks := true }, kinds := [], alts := [], laidByText := true, laidKinds := [.data, .data, .data, .data, .sentinel, .sentinel, .pinned], laidTests := true, laidLooks := .later }
def ArithValuesCardSaid : Prop := Claim7.holds Tryz.pinned (.plain (OpenSpec.ofChange arithValuesSpec)) arithValuesCard

/-- THE TIED CARD OF 'conchlaw03.ArithEvals'. -/
def arithEvalsCard : Claim7 := { stood := { row := arithEvalsRow, standIns := [], harness := (true, "3c54021a45a87e01a0e396ce7c9517123a9a7e0f7cfb1f517a6fafad8639436a"), looks := true }, kinds := [], alts := [], laidByText := true, laidKinds := [.data, .data, .data, .data, .sentinel, .sentinel, .pinned], laidTests := true, laidLooks := .later }
def ArithEvalsCardSaid : Prop := Claim7.holds Tryz.pinned (.plain (OpenSpec.ofChange arithEvalsSpec)) arithEvalsCard

/-- THE TIED CARD OF 'conchlaw03.ArithBrackets'. -/
def arithBracketsCard : Claim7 := { stood := { row := arithBracketsRow, standIns := [], harness := (true, "3c54021a45a87e01a0e396ce7c9517123a9a7e0f7cfb1f517a6fafad8639436a"), looks := true }, kinds := [], alts := [], laidByText := true, laidKinds := [.data, .data, .data, .data, .sentinel, .sentinel, .pinned], laidTests := true, laidLooks := .later }
def ArithBracketsCardSaid : Prop := Claim7.holds Tryz.pinned (.plain (OpenSpec.ofChange arithBracketsSpec)) arithBracketsCard

/-- THE TIED CARD OF 'conchlaw03.ArithErrs'. -/
def arithErrsCard : Claim7 := { stood := { row := arithErrsRow, standIns := [], harness := (true, "3c54021a45a87e01a0e396ce7c9517123a9a7e0f7cfb1f517a6fafad8639436a"), looks := true }, kinds := [], alts := [], laidByText := true, laidKinds := [.data, .data, .data, .data, .sentinel, .sentinel, .pinned], laidTests := true, laidLooks := .later }
def ArithErrsCardSaid : Prop := Claim7.holds Tryz.pinned (.plain (OpenSpec.ofChange arithErrsSpec)) arithErrsCard

/-- THE SECOND FORM's CARD OF 'conchlaw03.ArithValues'. -/
def arithValuesUptoCard : Claim7 := { stood := { row := arithValuesUptoRow, standIns := [], harness := (true, "3c54021a45a87e01a0e396ce7c9517123a9a7e0f7cfb1f517a6fafad8639436a"), looks := true }, kinds := [], alts := [], laidByText := true, laidKinds := [.data, .data, .data, .data, .sentinel, .sentinel, .pinned], laidTests := true, laidLooks := .later }
def ArithValuesUptoCardSaid : Prop := Claim7.holds Tryz.pinned (.plain (OpenSpec.upto arithValuesSpec)) arithValuesUptoCard

/-- THE SECOND FORM's CARD OF 'conchlaw03.ArithEvals'. -/
def arithEvalsUptoCard : Claim7 := { stood := { row := arithEvalsUptoRow, standIns := [], harness := (true, "3c54021a45a87e01a0e396ce7c9517123a9a7e0f7cfb1f517a6fafad8639436a"), looks := true }, kinds := [], alts := [], laidByText := true, laidKinds := [.data, .data, .data, .data, .sentinel, .sentinel, .pinned], laidTests := true, laidLooks := .later }
def ArithEvalsUptoCardSaid : Prop := Claim7.holds Tryz.pinned (.plain (OpenSpec.upto arithEvalsSpec)) arithEvalsUptoCard

/-- THE SECOND FORM's CARD OF 'conchlaw03.ArithBrackets'. -/
def arithBracketsUptoCard : Claim7 := { stood := { row := arithBracketsUptoRow, standIns := [], harness := (true, "3c54021a45a87e01a0e396ce7c9517123a9a7e0f7cfb1f517a6fafad8639436a"), looks := true }, kinds := [], alts := [], laidByText := true, laidKinds := [.data, .data, .data, .data, .sentinel, .sentinel, .pinned], laidTests := true, laidLooks := .later }
def ArithBracketsUptoCardSaid : Prop := Claim7.holds Tryz.pinned (.plain (OpenSpec.upto arithBracketsSpec)) arithBracketsUptoCard

/-- THE SECOND FORM's CARD OF 'conchlaw03.ArithErrs'. -/
def arithErrsUptoCard : Claim7 := { stood := { row := arithErrsUptoRow, standIns := [], harness := (true, "3c54021a45a87e01a0e396ce7c9517123a9a7e0f7cfb1f517a6fafad8639436a"), looks := true }, kinds := [], alts := [], laidByText := true, laidKinds := [.data, .data, .data, .data, .sentinel, .sentinel, .pinned], laidTests := true, laidLooks := .later }
def ArithErrsUptoCardSaid : Prop := Claim7.holds Tryz.pinned (.plain (OpenSpec.upto arithErrsSpec)) arithErrsUptoCard
end Rows
end Go.Proofs.YtkbpbagjbjkpmaaGreatDoor
