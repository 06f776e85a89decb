/-
  DERIVED. GIVEN WITH THE SEED: THE CARDS: each row of YtkpnackmijjciaaGreatDoorRows.lean that lists a variable, with what it lists TIED to the program's text (the seventh form; the later family's looks); each row that meets fmt, with fmt's text TOLD by the authors' own Lean function (tested against real Go, not proved from fmt's source: count such statements apart). THE CARD IS WHAT COUNTS. Prove the row's statement (the work); the ties are given (YtkpnackmijjciaaGreatDoorTie.lean); close each card by the builder's one call (the guide's Derived/Test/ToyasCard.lean, 'card_holds'). Laid BY PROGRAM, IN A SANDBOX (cutbox-door.mjs). By AI agents, Wed Nov 11 2026. No macro, syntax, notation, axiom, sorry.
-/
import Derived.Test.YtkpnackmijjciaaGreatDoorRows
import GoSem.ClaimSeven
namespace Go.Proofs.YtkpnackmijjciaaGreatDoor
namespace Rows

/-- THE TIED CARD OF 'conchlaw08.VarsParams'. -/
def varsParamsCard : Claim7 := { stood := { row := varsParamsRow, standIns := [], harness := (true, "44ffbc0501c0c2e718b072c51be3de1e2d2972123dd560f0283a3f4e9fcdd29c"), looks := true }, kinds := [], alts := [], laidByText := true, laidKinds := [.data, .data, .data, .data, .sentinel, .sentinel, .pinned], laidTests := true, laidLooks := .later }
def VarsParamsCardSaid : Prop := Claim7.holds Tryz.pinned (.plain (OpenSpec.ofChange varsParamsSpec)) varsParamsCard

/-- THE TIED CARD OF 'conchlaw08.VarsKeeps'. -/
def varsKeepsCard : Claim7 := { stood := { row := varsKeepsRow, standIns := [], harness := (true, "44ffbc0501c0c2e718b072c51be3de1e2d2972123dd560f0283a3f4e9fcdd29c"), looks := true }, kinds := [], alts := [], laidByText := true, laidKinds := [.data, .data, .data, .data, .sentinel, .sentinel, .pinned], laidTests := true, laidLooks := .later }
def VarsKeepsCardSaid : Prop := Claim7.holds Tryz.pinned (.plain (OpenSpec.ofChange varsKeepsSpec)) varsKeepsCard

/-- THE TIED CARD OF 'conchlaw08.VarsPlays'. -/
def varsPlaysCard : Claim7 := { stood := { row := varsPlaysRow, standIns := [], harness := (true, "44ffbc0501c0c2e718b072c51be3de1e2d2972123dd560f0283a3f4e9fcdd29c"), looks := true }, kinds := [], alts := [], laidByText := true, laidKinds := [.data, .data, .data, .data, .sentinel, .sentinel, .pinned], laidTests := true, laidLooks := .later }
def VarsPlaysCardSaid : Prop := Claim7.holds Tryz.pinned (.plain (OpenSpec.ofChange varsPlaysSpec)) varsPlaysCard

/-- THE TIED CARD OF 'conchlaw08.VarsCopies'. -/
def varsCopiesCard : Claim7 := { stood := { row := varsCopiesRow, standIns := [], harness := (true, "44ffbc0501c0c2e718b072c51be3de1e2d2972123dd560f0283a3f4e9fcdd29c"), looks := true }, kinds := [], alts := [], laidByText := true, laidKinds := [.data, .data, .data, .data, .sentinel, .sentinel, .pinned], laidTests := true, laidLooks := .later }
def VarsCopiesCardSaid : Prop := Claim7.holds Tryz.pinned (.plain (OpenSpec.ofChange varsCopiesSpec)) varsCopiesCard

/-- THE TIED CARD OF 'conchlaw08.VarsNil'. -/
def varsNilCard : Claim7 := { stood := { row := varsNilRow, standIns := [], harness := (true, "44ffbc0501c0c2e718b072c51be3de1e2d2972123dd560f0283a3f4e9fcdd29c"), looks := true }, kinds := [], alts := [], laidByText := true, laidKinds := [.data, .data, .data, .data, .sentinel, .sentinel, .pinned], laidTests := true, laidLooks := .later }
def VarsNilCardSaid : Prop := Claim7.holds Tryz.pinned (.plain (OpenSpec.ofChange varsNilSpec)) varsNilCard

/-- THE SECOND FORM's CARD OF 'conchlaw08.VarsParams'. -/
def varsParamsUptoCard : Claim7 := { stood := { row := varsParamsUptoRow, standIns := [], harness := (true, "44ffbc0501c0c2e718b072c51be3de1e2d2972123dd560f0283a3f4e9fcdd29c"), looks := true }, kinds := [], alts := [], laidByText := true, laidKinds := [.data, .data, .data, .data, .sentinel, .sentinel, .pinned], laidTests := true, laidLooks := .later }
def VarsParamsUptoCardSaid : Prop := Claim7.holds Tryz.pinned (.plain (OpenSpec.upto varsParamsSpec)) varsParamsUptoCard

/-- THE SECOND FORM's CARD OF 'conchlaw08.VarsKeeps'. -/
def varsKeepsUptoCard : Claim7 := { stood := { row := varsKeepsUptoRow, standIns := [], harness := (true, "44ffbc0501c0c2e718b072c51be3de1e2d2972123dd560f0283a3f4e9fcdd29c"), looks := true }, kinds := [], alts := [], laidByText := true, laidKinds := [.data, .data, .data, .data, .sentinel, .sentinel, .pinned], laidTests := true, laidLooks := .later }
def VarsKeepsUptoCardSaid : Prop := Claim7.holds Tryz.pinned (.plain (OpenSpec.upto varsKeepsSpec)) varsKeepsUptoCard

/-- THE SECOND FORM's CARD OF 'conchlaw08.VarsPlays'. -/
def varsPlaysUptoCard : Claim7 := { stood := { row := varsPlaysUptoRow, standIns := [], harness := (true, "44ffbc0501c0c2e718b072c51be3de1e2d2972123dd560f0283a3f4e9fcdd29c"), looks := true }, kinds := [], alts := [], laidByText := true, laidKinds := [.data, .data, .data, .data, .sentinel, .sentinel, .pinned], laidTests := true, laidLooks := .later }
def VarsPlaysUptoCardSaid : Prop := Claim7.holds Tryz.pinned (.plain (OpenSpec.upto varsPlaysSpec)) varsPlaysUptoCard

/-- THE SECOND FORM's CARD OF 'conchlaw08.VarsCopies'. -/
def varsCopiesUptoCard : Claim7 := { stood := { row := varsCopiesUptoRow, standIns := [], harness := (true, "44ffbc0501c0c2e718b072c51be3de1e2d2972123dd560f0283a3f4e9fcdd29c"), looks := true }, kinds := [], alts := [], laidByText := true, laidKinds := [.data, .data, .data, .data, .sentinel, .sentinel, .pinned], laidTests := true, laidLooks := .later }
def VarsCopiesUptoCardSaid : Prop := Claim7.holds Tryz.pinned (.plain (OpenSpec.upto varsCopiesSpec)) varsCopiesUptoCard

/-- THE SECOND FORM's CARD OF 'conchlaw08.VarsNil'. -/
def varsNilUptoCard : Claim7 := { stood := { row := varsNilUptoRow, standIns := [], harness := (true, "44ffbc0501c0c2e718b072c51be3de1e2d2972123dd560f0283a3f4e9fcdd29c"), looks := true }, kinds := [], alts := [], laidByText := true, laidKinds := [.data, .data, .data, .data, .sentinel, .sentinel, .pinned], laidTests := true, laidLooks := .later }
def VarsNilUptoCardSaid : Prop := Claim7.holds Tryz.pinned (.plain (OpenSpec.upto varsNilSpec)) varsNilUptoCard
end Rows
end Go.Proofs.YtkpnackmijjciaaGreatDoor
