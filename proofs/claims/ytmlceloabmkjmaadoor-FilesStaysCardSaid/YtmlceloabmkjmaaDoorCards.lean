/-
  DERIVED. GIVEN WITH THE SEED: THE CARDS: each row of YtmlceloabmkjmaaDoorRows.lean that lists a variable, with what it lists TIED to the program's text (the seventh form; the later family's looks); each row that meets fmt, with fmt's text TOLD by the authors' own Lean function (tested against real Go, not proved from fmt's source: count such statements apart). THE CARD IS WHAT COUNTS. Prove the row's statement (the work); the ties are given (YtmlceloabmkjmaaDoorTie.lean); close each card by the builder's one call (the guide's Derived/Test/ToyasCard.lean, 'card_holds'). Laid BY PROGRAM, IN A SANDBOX (cutbox-door.mjs). By AI agents, Wed Nov 11 2026. No macro, syntax, notation, axiom, sorry.
-/
import Derived.Test.YtmlceloabmkjmaaDoorRows
import GoSem.ClaimSeven
namespace Go.Proofs.YtmlceloabmkjmaaDoor
namespace Rows

/-- THE TIED CARD OF 'conchlaw14.FilesPass'. -/
def filesPassCard : Claim7 := { stood := { row := filesPassRow, standIns := [], harness := (true, "e47e88cc2946662cc6e767ef77e8a19850240d399ed610381932bf7f84a42e99"), looks := false }, kinds := [], alts := [], laidByText := true, laidKinds := [.data, .pinned], laidTests := true, laidLooks := .later }
def FilesPassCardSaid : Prop := Claim7.holds Tryd.pinned (.plain (OpenSpec.ofChange filesPassSpec)) filesPassCard

/-- THE TIED CARD OF 'conchlaw14.FilesEnds'. -/
def filesEndsCard : Claim7 := { stood := { row := filesEndsRow, standIns := [], harness := (true, "e47e88cc2946662cc6e767ef77e8a19850240d399ed610381932bf7f84a42e99"), looks := false }, kinds := [], alts := [], laidByText := true, laidKinds := [.data, .pinned], laidTests := true, laidLooks := .later }
def FilesEndsCardSaid : Prop := Claim7.holds Tryd.pinned (.plain (OpenSpec.ofChange filesEndsSpec)) filesEndsCard

/-- THE TIED CARD OF 'conchlaw14.FilesNil'. -/
def filesNilCard : Claim7 := { stood := { row := filesNilRow, standIns := [], harness := (true, "e47e88cc2946662cc6e767ef77e8a19850240d399ed610381932bf7f84a42e99"), looks := false }, kinds := [], alts := [], laidByText := true, laidKinds := [.data, .pinned], laidTests := true, laidLooks := .later }
def FilesNilCardSaid : Prop := Claim7.holds Tryd.pinned (.plain (OpenSpec.ofChange filesNilSpec)) filesNilCard

/-- THE TIED CARD OF 'conchlaw14.FilesStays'. -/
def filesStaysCard : Claim7 := { stood := { row := filesStaysRow, standIns := [], harness := (true, "e47e88cc2946662cc6e767ef77e8a19850240d399ed610381932bf7f84a42e99"), looks := false }, kinds := [], alts := [], laidByText := true, laidKinds := [.data, .pinned], laidTests := true, laidLooks := .later }
def FilesStaysCardSaid : Prop := Claim7.holds Tryd.pinned (.plain (OpenSpec.ofChange filesStaysSpec)) filesStaysCard

/-- THE SECOND FORM's CARD OF 'conchlaw14.FilesPass'. -/
def filesPassUptoCard : Claim7 := { stood := { row := filesPassUptoRow, standIns := [], harness := (true, "e47e88cc2946662cc6e767ef77e8a19850240d399ed610381932bf7f84a42e99"), looks := false }, kinds := [], alts := [], laidByText := true, laidKinds := [.data, .pinned], laidTests := true, laidLooks := .later }
def FilesPassUptoCardSaid : Prop := Claim7.holds Tryd.pinned (.plain (OpenSpec.upto filesPassSpec)) filesPassUptoCard

/-- THE SECOND FORM's CARD OF 'conchlaw14.FilesEnds'. -/
def filesEndsUptoCard : Claim7 := { stood := { row := filesEndsUptoRow, standIns := [], harness := (true, "e47e88cc2946662cc6e767ef77e8a19850240d399ed610381932bf7f84a42e99"), looks := false }, kinds := [], alts := [], laidByText := true, laidKinds := [.data, .pinned], laidTests := true, laidLooks := .later }
def FilesEndsUptoCardSaid : Prop := Claim7.holds Tryd.pinned (.plain (OpenSpec.upto filesEndsSpec)) filesEndsUptoCard

/-- THE SECOND FORM's CARD OF 'conchlaw14.FilesNil'. -/
def filesNilUptoCard : Claim7 := { stood := { row := filesNilUptoRow, standIns := [], harness := (true, "e47e88cc2946662cc6e767ef77e8a19850240d399ed610381932bf7f84a42e99"), looks := false }, kinds := [], alts := [], laidByText := true, laidKinds := [.data, .pinned], laidTests := true, laidLooks := .later }
def FilesNilUptoCardSaid : Prop := Claim7.holds Tryd.pinned (.plain (OpenSpec.upto filesNilSpec)) filesNilUptoCard

/-- THE SECOND FORM's CARD OF 'conchlaw14.FilesStays'. -/
def filesStaysUptoCard : Claim7 := { stood := { row := filesStaysUptoRow, standIns := [], harness := (true, "e47e88cc2946662cc6e767ef77e8a19850240d399ed610381932bf7f84a42e99"), looks := false }, kinds := [], alts := [], laidByText := true, laidKinds := [.data, .pinned], laidTests := true, laidLooks := .later }
def FilesStaysUptoCardSaid : Prop := Claim7.holds Tryd.pinned (.plain (OpenSpec.upto filesStaysSpec)) filesStaysUptoCard
end Rows
end Go.Proofs.YtmlceloabmkjmaaDoor
