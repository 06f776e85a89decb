/-
  DERIVED. GIVEN WITH THE SEED: THE CARDS: each row of YtdlimikcgdgfpaaGreatDoorRows.lean that lists a variable, with what it lists TIED to the program's text (the seventh form; the later family's looks); each row that meets fmt, with fmt's text TOLD by the authors' own Lean function (tested against real Go, not proved from fmt's source: count such statements apart). THE CARD IS WHAT COUNTS. Prove the row's statement (the work); the ties are given (YtdlimikcgdgfpaaGreatDoorTie.lean); close each card by the builder's one call (the guide's Derived/Test/ToyasCard.lean, 'card_holds'). Laid BY PROGRAM, IN A SANDBOX (cutbox-door.mjs). By AI agents, Wed Nov 11 2026. No macro, syntax, notation, axiom, sorry.
-/
import Derived.Test.YtdlimikcgdgfpaaGreatDoorRows
import GoSem.ClaimSeven
namespace Go.Proofs.YtdlimikcgdgfpaaGreatDoor
namespace Rows

/-- THE TIED CARD OF 'conchlaw10.ExpandAsks'. -/
def expandAsksCard : Claim7 := { stood := { row := expandAsksRow, standIns := [], harness := (true, "41badf10519f8c961125929329458b5cc63414b7b3950bde83927b73993dd2ea"), looks := true }, kinds := [], alts := [], laidByText := true, laidKinds := [.data, .data, .data, .data, .sentinel, .sentinel, .pinned], laidTests := true, laidLooks := .later }
def ExpandAsksCardSaid : Prop := Claim7.holds Tryz.pinned (.plain (OpenSpec.ofChange expandAsksSpec)) expandAsksCard

/-- THE TIED CARD OF 'conchlaw10.ExpandCuts'. -/
def expandCutsCard : Claim7 := { stood := { row := expandCutsRow, standIns := [], harness := (true, "41badf10519f8c961125929329458b5cc63414b7b3950bde83927b73993dd2ea"), looks := true }, kinds := [], alts := [], laidByText := true, laidKinds := [.data, .data, .data, .data, .sentinel, .sentinel, .pinned], laidTests := true, laidLooks := .later }
def ExpandCutsCardSaid : Prop := Claim7.holds Tryz.pinned (.plain (OpenSpec.ofChange expandCutsSpec)) expandCutsCard

/-- THE TIED CARD OF 'conchlaw10.ExpandNil'. -/
def expandNilCard : Claim7 := { stood := { row := expandNilRow, standIns := [], harness := (true, "41badf10519f8c961125929329458b5cc63414b7b3950bde83927b73993dd2ea"), looks := true }, kinds := [], alts := [], laidByText := true, laidKinds := [.data, .data, .data, .data, .sentinel, .sentinel, .pinned], laidTests := true, laidLooks := .later }
def ExpandNilCardSaid : Prop := Claim7.holds Tryz.pinned (.plain (OpenSpec.ofChange expandNilSpec)) expandNilCard

/-- THE TIED CARD OF 'conchlaw10.ExpandQuotes'. -/
def expandQuotesCard : Claim7 := { stood := { row := expandQuotesRow, standIns := [], harness := (true, "41badf10519f8c961125929329458b5cc63414b7b3950bde83927b73993dd2ea"), looks := true }, kinds := [], alts := [], laidByText := true, laidKinds := [.data, .data, .data, .data, .sentinel, .sentinel, .pinned], laidTests := true, laidLooks := .later }
def ExpandQuotesCardSaid : Prop := Claim7.holds Tryz.pinned (.plain (OpenSpec.ofChange expandQuotesSpec)) expandQuotesCard

/-- THE TIED CARD OF 'conchlaw10.ExpandStill'. -/
def expandStillCard : Claim7 := { stood := { row := expandStillRow, standIns := [], harness := (true, "41badf10519f8c961125929329458b5cc63414b7b3950bde83927b73993dd2ea"), looks := true }, kinds := [], alts := [], laidByText := true, laidKinds := [.data, .data, .data, .data, .sentinel, .sentinel, .pinned], laidTests := true, laidLooks := .later }
def ExpandStillCardSaid : Prop := Claim7.holds Tryz.pinned (.plain (OpenSpec.ofChange expandStillSpec)) expandStillCard

/-- THE TIED CARD OF 'conchlaw10.ExpandWords'. -/
def expandWordsCard : Claim7 := { stood := { row := expandWordsRow, standIns := [], harness := (true, "41badf10519f8c961125929329458b5cc63414b7b3950bde83927b73993dd2ea"), looks := true }, kinds := [], alts := [], laidByText := true, laidKinds := [.data, .data, .data, .data, .sentinel, .sentinel, .pinned], laidTests := true, laidLooks := .later }
def ExpandWordsCardSaid : Prop := Claim7.holds Tryz.pinned (.plain (OpenSpec.ofChange expandWordsSpec)) expandWordsCard

/-- THE TIED CARD OF 'conchlaw10.ExpandOne'. -/
def expandOneCard : Claim7 := { stood := { row := expandOneRow, standIns := [], harness := (true, "41badf10519f8c961125929329458b5cc63414b7b3950bde83927b73993dd2ea"), looks := true }, kinds := [], alts := [], laidByText := true, laidKinds := [.data, .data, .data, .data, .sentinel, .sentinel, .pinned], laidTests := true, laidLooks := .later }
def ExpandOneCardSaid : Prop := Claim7.holds Tryz.pinned (.plain (OpenSpec.ofChange expandOneSpec)) expandOneCard

/-- THE SECOND FORM's CARD OF 'conchlaw10.ExpandAsks'. -/
def expandAsksUptoCard : Claim7 := { stood := { row := expandAsksUptoRow, standIns := [], harness := (true, "41badf10519f8c961125929329458b5cc63414b7b3950bde83927b73993dd2ea"), looks := true }, kinds := [], alts := [], laidByText := true, laidKinds := [.data, .data, .data, .data, .sentinel, .sentinel, .pinned], laidTests := true, laidLooks := .later }
def ExpandAsksUptoCardSaid : Prop := Claim7.holds Tryz.pinned (.plain (OpenSpec.upto expandAsksSpec)) expandAsksUptoCard

/-- THE SECOND FORM's CARD OF 'conchlaw10.ExpandCuts'. -/
def expandCutsUptoCard : Claim7 := { stood := { row := expandCutsUptoRow, standIns := [], harness := (true, "41badf10519f8c961125929329458b5cc63414b7b3950bde83927b73993dd2ea"), looks := true }, kinds := [], alts := [], laidByText := true, laidKinds := [.data, .data, .data, .data, .sentinel, .sentinel, .pinned], laidTests := true, laidLooks := .later }
def ExpandCutsUptoCardSaid : Prop := Claim7.holds Tryz.pinned (.plain (OpenSpec.upto expandCutsSpec)) expandCutsUptoCard

/-- THE SECOND FORM's CARD OF 'conchlaw10.ExpandNil'. -/
def expandNilUptoCard : Claim7 := { stood := { row := expandNilUptoRow, standIns := [], harness := (true, "41badf10519f8c961125929329458b5cc63414b7b3950bde83927b73993dd2ea"), looks := true }, kinds := [], alts := [], laidByText := true, laidKinds := [.data, .data, .data, .data, .sentinel, .sentinel, .pinned], laidTests := true, laidLooks := .later }
def ExpandNilUptoCardSaid : Prop := Claim7.holds Tryz.pinned (.plain (OpenSpec.upto expandNilSpec)) expandNilUptoCard

/-- THE SECOND FORM's CARD OF 'conchlaw10.ExpandQuotes'. -/
def expandQuotesUptoCard : Claim7 := { stood := { row := expandQuotesUptoRow, standIns := [], harness := (true, "41badf10519f8c961125929329458b5cc63414b7b3950bde83927b73993dd2ea"), looks := true }, kinds := [], alts := [], laidByText := true, laidKinds := [.data, .data, .data, .data, .sentinel, .sentinel, .pinned], laidTests := true, laidLooks := .later }
def ExpandQuotesUptoCardSaid : Prop := Claim7.holds Tryz.pinned (.plain (OpenSpec.upto expandQuotesSpec)) expandQuotesUptoCard

/-- THE SECOND FORM's CARD OF 'conchlaw10.ExpandStill'. -/
def expandStillUptoCard : Claim7 := { stood := { row := expandStillUptoRow, standIns := [], harness := (true, "41badf10519f8c961125929329458b5cc63414b7b3950bde83927b73993dd2ea"), looks := true }, kinds := [], alts := [], laidByText := true, laidKinds := [.data, .data, .data, .data, .sentinel, .sentinel, .pinned], laidTests := true, laidLooks := .later }
def ExpandStillUptoCardSaid : Prop := Claim7.holds Tryz.pinned (.plain (OpenSpec.upto expandStillSpec)) expandStillUptoCard

/-- THE SECOND FORM's CARD OF 'conchlaw10.ExpandWords'. -/
def expandWordsUptoCard : Claim7 := { stood := { row := expandWordsUptoRow, standIns := [], harness := (true, "41badf10519f8c961125929329458b5cc63414b7b3950bde83927b73993dd2ea"), looks := true }, kinds := [], alts := [], laidByText := true, laidKinds := [.data, .data, .data, .data, .sentinel, .sentinel, .pinned], laidTests := true, laidLooks := .later }
def ExpandWordsUptoCardSaid : Prop := Claim7.holds Tryz.pinned (.plain (OpenSpec.upto expandWordsSpec)) expandWordsUptoCard

/-- THE SECOND FORM's CARD OF 'conchlaw10.ExpandOne'. -/
def expandOneUptoCard : Claim7 := { stood := { row := expandOneUptoRow, standIns := [], harness := (true, "41badf10519f8c961125929329458b5cc63414b7b3950bde83927b73993dd2ea"), looks := true }, kinds := [], alts := [], laidByText := true, laidKinds := [.data, .data, .data, .data, .sentinel, .sentinel, .pinned], laidTests := true, laidLooks := .later }
def ExpandOneUptoCardSaid : Prop := Claim7.holds Tryz.pinned (.plain (OpenSpec.upto expandOneSpec)) expandOneUptoCard
end Rows
end Go.Proofs.YtdlimikcgdgfpaaGreatDoor
