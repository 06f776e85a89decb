/-
  DERIVED. GIVEN WITH THE SEED: THE CARDS: each row of YtkpnackmijjciaaDoorRows.lean that lists a variable, with what it lists TIED to the program's text (the seventh form; the later family's looks); each row that meets fmt, with fmt's text TOLD by the authors' own Lean function (tested against real Go, not proved from fmt's source: count such statements apart). THE CARD IS WHAT COUNTS. Prove the row's statement (the work); the ties are given (YtkpnackmijjciaaDoorTie.lean); close each card by the builder's one call (the guide's Derived/Test/ToyasCard.lean, 'card_holds'). Laid BY PROGRAM, IN A SANDBOX (cutbox-door.mjs). By AI agents, Wed Nov 11 2026. No macro, syntax, notation, axiom, sorry.
-/
import Derived.Test.YtkpnackmijjciaaDoorRows
import GoSem.ClaimSeven
namespace Go.Proofs.YtkpnackmijjciaaDoor
namespace Rows

/-- THE TIED CARD OF 'conchlaw08.VarsReads'. -/
def varsReadsCard : Claim7 := { stood := { row := varsReadsRow, standIns := [], harness := (true, "4541b195d0ed4251030a259c8f784c4d2a58ff4658eb1efd91447eae22d51987"), looks := true }, kinds := [], alts := [], laidByText := true, laidKinds := [.data, .data, .data, .data, .sentinel, .sentinel, .pinned], laidTests := true, laidLooks := .later }
def VarsReadsCardSaid : Prop := Claim7.holds Tryd.pinned (.plain (OpenSpec.ofChange varsReadsSpec)) varsReadsCard

/-- THE SECOND FORM's CARD OF 'conchlaw08.VarsReads'. -/
def varsReadsUptoCard : Claim7 := { stood := { row := varsReadsUptoRow, standIns := [], harness := (true, "4541b195d0ed4251030a259c8f784c4d2a58ff4658eb1efd91447eae22d51987"), looks := true }, kinds := [], alts := [], laidByText := true, laidKinds := [.data, .data, .data, .data, .sentinel, .sentinel, .pinned], laidTests := true, laidLooks := .later }
def VarsReadsUptoCardSaid : Prop := Claim7.holds Tryd.pinned (.plain (OpenSpec.upto varsReadsSpec)) varsReadsUptoCard
end Rows
end Go.Proofs.YtkpnackmijjciaaDoor
