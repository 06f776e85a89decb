/-
  DERIVED. GIVEN WITH THE SEED: THE CARDS: each row of YtmgdkoidgoihfaaGreatDoorRows.lean that lists a variable, with what it lists TIED to the program's text (the seventh form; the later family's looks); each row that meets fmt, with fmt's text TOLD by the authors' own Lean function (tested against real Go, not proved from fmt's source: count such statements apart). THE CARD IS WHAT COUNTS. Prove the row's statement (the work); the ties are given (YtmgdkoidgoihfaaGreatDoorTie.lean); close each card by the builder's one call (the guide's Derived/Test/ToyasCard.lean, 'card_holds'). Laid BY PROGRAM, IN A SANDBOX (cutbox-door.mjs). By AI agents, Wed Nov 11 2026. No macro, syntax, notation, axiom, sorry.
-/
import Derived.Test.YtmgdkoidgoihfaaGreatDoorRows
import GoSem.ClaimSeven
namespace Go.Proofs.YtmgdkoidgoihfaaGreatDoor
namespace Rows

/-- THE TIED CARD OF 'conchlaw05.WordParses'. -/
def wordParsesCard : Claim7 := { stood := { row := wordParsesRow, standIns := [], harness := (true, "1b712cef71369220b153c8ee935d581a3dd887bc066632b0a765412cc8d83b04"), looks := false }, kinds := [], alts := [], laidByText := true, laidKinds := [.data, .pinned], laidTests := true, laidLooks := .later }
def WordParsesCardSaid : Prop := Claim7.holds Tryz.pinned (.plain (OpenSpec.ofChange wordParsesSpec)) wordParsesCard

/-- THE TIED CARD OF 'conchlaw05.WordPrints'. -/
def wordPrintsCard : Claim7 := { stood := { row := wordPrintsRow, standIns := [], harness := (true, "1b712cef71369220b153c8ee935d581a3dd887bc066632b0a765412cc8d83b04"), looks := false }, kinds := [], alts := [], laidByText := true, laidKinds := [.data, .pinned], laidTests := true, laidLooks := .later }
def WordPrintsCardSaid : Prop := Claim7.holds Tryz.pinned (.plain (OpenSpec.ofChange wordPrintsSpec)) wordPrintsCard

/-- THE SECOND FORM's CARD OF 'conchlaw05.WordParses'. -/
def wordParsesUptoCard : Claim7 := { stood := { row := wordParsesUptoRow, standIns := [], harness := (true, "1b712cef71369220b153c8ee935d581a3dd887bc066632b0a765412cc8d83b04"), looks := false }, kinds := [], alts := [], laidByText := true, laidKinds := [.data, .pinned], laidTests := true, laidLooks := .later }
def WordParsesUptoCardSaid : Prop := Claim7.holds Tryz.pinned (.plain (OpenSpec.upto wordParsesSpec)) wordParsesUptoCard

/-- THE SECOND FORM's CARD OF 'conchlaw05.WordPrints'. -/
def wordPrintsUptoCard : Claim7 := { stood := { row := wordPrintsUptoRow, standIns := [], harness := (true, "1b712cef71369220b153c8ee935d581a3dd887bc066632b0a765412cc8d83b04"), looks := false }, kinds := [], alts := [], laidByText := true, laidKinds := [.data, .pinned], laidTests := true, laidLooks := .later }
def WordPrintsUptoCardSaid : Prop := Claim7.holds Tryz.pinned (.plain (OpenSpec.upto wordPrintsSpec)) wordPrintsUptoCard
end Rows
end Go.Proofs.YtmgdkoidgoihfaaGreatDoor
