/-
  DERIVED. GIVEN WITH THE SEED: THE CARDS: each row of YtmgdkoidgoihfaaDoorRows.lean that lists a variable, with what it lists TIED to the program's text (the seventh form; the later family's looks); each row that meets fmt, with fmt's text TOLD by the authors' own Lean function (tested against real Go, not proved from fmt's source: count such statements apart). THE CARD IS WHAT COUNTS. Prove the row's statement (the work); the ties are given (YtmgdkoidgoihfaaDoorTie.lean); close each card by the builder's one call (the guide's Derived/Test/ToyasCard.lean, 'card_holds'). Laid BY PROGRAM, IN A SANDBOX (cutbox-door.mjs). By AI agents, Wed Nov 11 2026. No macro, syntax, notation, axiom, sorry.
-/
import Derived.Test.YtmgdkoidgoihfaaDoorRows
import GoSem.ClaimSeven
namespace Go.Proofs.YtmgdkoidgoihfaaDoor
namespace Rows

/-- THE TIED CARD OF 'conchlaw05.WordSames'. -/
def wordSamesCard : Claim7 := { stood := { row := wordSamesRow, standIns := [], harness := (true, "6a73255e891100fe2ecf698d0ad0e3f3963526025f41c6ef3ec47390d9b8d75a"), looks := false }, kinds := [], alts := [], laidByText := true, laidKinds := [.data, .pinned], laidTests := true, laidLooks := .later }
def WordSamesCardSaid : Prop := Claim7.holds Tryd.pinned (.plain (OpenSpec.ofChange wordSamesSpec)) wordSamesCard

/-- THE TIED CARD OF 'conchlaw05.WordQuotes'. -/
def wordQuotesCard : Claim7 := { stood := { row := wordQuotesRow, standIns := [], harness := (true, "6a73255e891100fe2ecf698d0ad0e3f3963526025f41c6ef3ec47390d9b8d75a"), looks := false }, kinds := [], alts := [], laidByText := true, laidKinds := [.data, .pinned], laidTests := true, laidLooks := .later }
def WordQuotesCardSaid : Prop := Claim7.holds Tryd.pinned (.plain (OpenSpec.ofChange wordQuotesSpec)) wordQuotesCard

/-- THE TIED CARD OF 'conchlaw05.WordShaped'. -/
def wordShapedCard : Claim7 := { stood := { row := wordShapedRow, standIns := [], harness := (true, "6a73255e891100fe2ecf698d0ad0e3f3963526025f41c6ef3ec47390d9b8d75a"), looks := false }, kinds := [], alts := [], laidByText := true, laidKinds := [.data, .pinned], laidTests := true, laidLooks := .later }
def WordShapedCardSaid : Prop := Claim7.holds Tryd.pinned (.plain (OpenSpec.ofChange wordShapedSpec)) wordShapedCard

/-- THE SECOND FORM's CARD OF 'conchlaw05.WordSames'. -/
def wordSamesUptoCard : Claim7 := { stood := { row := wordSamesUptoRow, standIns := [], harness := (true, "6a73255e891100fe2ecf698d0ad0e3f3963526025f41c6ef3ec47390d9b8d75a"), looks := false }, kinds := [], alts := [], laidByText := true, laidKinds := [.data, .pinned], laidTests := true, laidLooks := .later }
def WordSamesUptoCardSaid : Prop := Claim7.holds Tryd.pinned (.plain (OpenSpec.upto wordSamesSpec)) wordSamesUptoCard

/-- THE SECOND FORM's CARD OF 'conchlaw05.WordQuotes'. -/
def wordQuotesUptoCard : Claim7 := { stood := { row := wordQuotesUptoRow, standIns := [], harness := (true, "6a73255e891100fe2ecf698d0ad0e3f3963526025f41c6ef3ec47390d9b8d75a"), looks := false }, kinds := [], alts := [], laidByText := true, laidKinds := [.data, .pinned], laidTests := true, laidLooks := .later }
def WordQuotesUptoCardSaid : Prop := Claim7.holds Tryd.pinned (.plain (OpenSpec.upto wordQuotesSpec)) wordQuotesUptoCard

/-- THE SECOND FORM's CARD OF 'conchlaw05.WordShaped'. -/
def wordShapedUptoCard : Claim7 := { stood := { row := wordShapedUptoRow, standIns := [], harness := (true, "6a73255e891100fe2ecf698d0ad0e3f3963526025f41c6ef3ec47390d9b8d75a"), looks := false }, kinds := [], alts := [], laidByText := true, laidKinds := [.data, .pinned], laidTests := true, laidLooks := .later }
def WordShapedUptoCardSaid : Prop := Claim7.holds Tryd.pinned (.plain (OpenSpec.upto wordShapedSpec)) wordShapedUptoCard
end Rows
end Go.Proofs.YtmgdkoidgoihfaaDoor
