/-
  DERIVED. GIVEN WITH THE SEED: THE CARDS: each row of YtkbpbagjbjkpmaaDoorRows.lean that lists a variable, with what it lists TIED to the program's text (the seventh form; the later family's looks); each row that meets fmt, with fmt's text TOLD by the authors' own Lean function (tested against real Go, not proved from fmt's source: count such statements apart). THE CARD IS WHAT COUNTS. Prove the row's statement (the work); the ties are given (YtkbpbagjbjkpmaaDoorTie.lean); close each card by the builder's one call (the guide's Derived/Test/ToyasCard.lean, 'card_holds'). Laid BY PROGRAM, IN A SANDBOX (cutbox-door.mjs). By AI agents, Wed Nov 11 2026. No macro, syntax, notation, axiom, sorry.
-/
import Derived.Test.YtkbpbagjbjkpmaaDoorRows
import GoSem.ClaimSeven
namespace Go.Proofs.YtkbpbagjbjkpmaaDoor
namespace Rows

/-- THE TIED CARD OF 'conchlaw03.ArithSums'. -/
def arithSumsCard : Claim7 := { stood := { row := arithSumsRow, standIns := [], harness := (true, "094bcd2594230af7034d1b9b01479ed9e7f5364c7f1c06e975b1b4874dd0b122"), looks := true }, kinds := [], alts := [], laidByText := true, laidKinds := [.data, .data, .data, .data, .sentinel, .sentinel, .pinned], laidTests := true, laidLooks := .later }
def ArithSumsCardSaid : Prop := Claim7.holds Tryd.pinned (.plain (OpenSpec.ofChange arithSumsSpec)) arithSumsCard

/-- THE TIED CARD OF 'conchlaw03.ArithSets'. -/
def arithSetsCard : Claim7 := { stood := { row := arithSetsRow, standIns := [], harness := (true, "094bcd2594230af7034d1b9b01479ed9e7f5364c7f1c06e975b1b4874dd0b122"), looks := true }, kinds := [], alts := [], laidByText := true, laidKinds := [.data, .data, .data, .data, .sentinel, .sentinel, .pinned], laidTests := true, laidLooks := .later }
def ArithSetsCardSaid : Prop := Claim7.holds Tryd.pinned (.plain (OpenSpec.ofChange arithSetsSpec)) arithSetsCard

/-- THE SECOND FORM's CARD OF 'conchlaw03.ArithSums'. -/
def arithSumsUptoCard : Claim7 := { stood := { row := arithSumsUptoRow, standIns := [], harness := (true, "094bcd2594230af7034d1b9b01479ed9e7f5364c7f1c06e975b1b4874dd0b122"), looks := true }, kinds := [], alts := [], laidByText := true, laidKinds := [.data, .data, .data, .data, .sentinel, .sentinel, .pinned], laidTests := true, laidLooks := .later }
def ArithSumsUptoCardSaid : Prop := Claim7.holds Tryd.pinned (.plain (OpenSpec.upto arithSumsSpec)) arithSumsUptoCard

/-- THE SECOND FORM's CARD OF 'conchlaw03.ArithSets'. -/
def arithSetsUptoCard : Claim7 := { stood := { row := arithSetsUptoRow, standIns := [], harness := (true, "094bcd2594230af7034d1b9b01479ed9e7f5364c7f1c06e975b1b4874dd0b122"), looks := true }, kinds := [], alts := [], laidByText := true, laidKinds := [.data, .data, .data, .data, .sentinel, .sentinel, .pinned], laidTests := true, laidLooks := .later }
def ArithSetsUptoCardSaid : Prop := Claim7.holds Tryd.pinned (.plain (OpenSpec.upto arithSetsSpec)) arithSetsUptoCard
end Rows
end Go.Proofs.YtkbpbagjbjkpmaaDoor
