/-
  DERIVED. GIVEN WITH THE SEED: THE CARDS: each row of YtpnefcapiiemdaaGreatDoorRows.lean that lists a variable, with what it lists TIED to the program's text (the seventh form; the later family's looks); each row that meets fmt, with fmt's text TOLD by the authors' own Lean function (tested against real Go, not proved from fmt's source: count such statements apart). THE CARD IS WHAT COUNTS. Prove the row's statement (the work); the ties are given (YtpnefcapiiemdaaGreatDoorTie.lean); close each card by the builder's one call (the guide's Derived/Test/ToyasCard.lean, 'card_holds'). Laid BY PROGRAM, IN A SANDBOX (cutbox-door.mjs). By AI agents, Wed Nov 11 2026. No macro, syntax, notation, axiom, sorry.
-/
import Derived.Test.YtpnefcapiiemdaaGreatDoorRows
import GoSem.ClaimSeven
namespace Go.Proofs.YtpnefcapiiemdaaGreatDoor
namespace Rows

/-- THE TIED CARD OF 'conchlaw08.VarsParams'. -/
def varsParamsCard : Claim7 := { stood := { row := varsParamsRow, standIns := [], harness := (true, "9869b564e85bd0a7e1914fb5d3a6c851f7f8e69d68ec7b4302f9380774a7cdb8"), looks := true }, kinds := [], alts := [], laidByText := true, laidKinds := [.data, .data, .data, .data, .sentinel, .sentinel, .pinned], laidTests := true, laidLooks := .later }
def VarsParamsCardSaid : Prop := Claim7.holds Tryz.pinned (.plain (OpenSpec.ofChange varsParamsSpec)) varsParamsCard

/-- THE SECOND FORM's CARD OF 'conchlaw08.VarsParams'. -/
def varsParamsUptoCard : Claim7 := { stood := { row := varsParamsUptoRow, standIns := [], harness := (true, "9869b564e85bd0a7e1914fb5d3a6c851f7f8e69d68ec7b4302f9380774a7cdb8"), looks := true }, kinds := [], alts := [], laidByText := true, laidKinds := [.data, .data, .data, .data, .sentinel, .sentinel, .pinned], laidTests := true, laidLooks := .later }
def VarsParamsUptoCardSaid : Prop := Claim7.holds Tryz.pinned (.plain (OpenSpec.upto varsParamsSpec)) varsParamsUptoCard
end Rows
end Go.Proofs.YtpnefcapiiemdaaGreatDoor
