/-
  NARROWER THAN 'FOR EVERY INPUT', by the rows' own cells (each row's printed sentence says how): FilesPass: laid · FilesEnds: laid · FilesNil: laid · FilesStays: laid.
  DERIVED. THE GIVEN ROWS OF THIS SEAT. 4 by the template 'for every input the law returns true; each argument reads behind the call as it read before'; 0 by the template 'total and deterministic' (their statements: YtmlceloabmkjmaaDoorTotals.lean).
  GIVEN WITH THE SEED: the statements are not yours to turn. If you find one false, say at which input.
  Laid BY PROGRAM, IN A SANDBOX (cutbox-rows.mjs): the forced cells as the released guide's own fill.sh prints them over the translation 4600193566390fbf… (all of the seat's roots in one cut). By AI agents, Wed Nov 11 2026. No macro, syntax, notation, axiom, sorry.
-/
import Derived.Test.YtmlceloabmkjmaaDoorChecked
import GoSem.PinnedTables
import GoSem.Claim
import GoSem.ClaimJoined
import GoSem.ClaimMapViews
import Derived.JoinedTies
import Derived.KernelRfl
namespace Go.Proofs.YtmlceloabmkjmaaDoor
/- THE CELL 'sum', in the pinned program and in every row, IS THE sha256 OF THE DUMP (.gsa) THAT YtmlceloabmkjmaaDoorProg.lean LOADS. Nothing in Lean hashes anything: it is a label: what it is worth is what the hold of that sum in a sandbox is worth. -/
noncomputable def Tryd.pinned : Pinned := { name := "ytmlceloabmkjmaadoor", sum := "4600193566390fbfd92c815f6bdd1eb179f04bda261b9c87953ec2559ab5a988", checked := Tryd.checked }
namespace Rows
def none {H : Type} : Left H := { results := [], args := [] }

/- WHAT THE LISTED PACKAGE-LEVEL VARIABLES READ AS WHEN THE CALL BEGINS. Each datum BY PROGRAM (the guide's laid-datum.mjs) off the statement by which the dump's own 'gosem.cut.vars' lays the variable. In a bare row this is a premise. The card (YtmlceloabmkjmaaDoorCards.lean) ties it to the program's text. -/
def laid_unicode_utf8_acceptRanges {H : Type} : DataW H := .agg [.agg [.lit (.int .u8 128), .lit (.int .u8 191)], .agg [.lit (.int .u8 160), .lit (.int .u8 191)], .agg [.lit (.int .u8 128), .lit (.int .u8 159)], .agg [.lit (.int .u8 144), .lit (.int .u8 191)], .agg [.lit (.int .u8 128), .lit (.int .u8 143)], .agg [.lit (.int .u8 0), .lit (.int .u8 0)], .agg [.lit (.int .u8 0), .lit (.int .u8 0)], .agg [.lit (.int .u8 0), .lit (.int .u8 0)], .agg [.lit (.int .u8 0), .lit (.int .u8 0)], .agg [.lit (.int .u8 0), .lit (.int .u8 0)], .agg [.lit (.int .u8 0), .lit (.int .u8 0)], .agg [.lit (.int .u8 0), .lit (.int .u8 0)], .agg [.lit (.int .u8 0), .lit (.int .u8 0)], .agg [.lit (.int .u8 0), .lit (.int .u8 0)], .agg [.lit (.int .u8 0), .lit (.int .u8 0)], .agg [.lit (.int .u8 0), .lit (.int .u8 0)]]
/-- One of Go's own tables, pinned by name: the form's constant. -/
def laid_unicode_utf8_first : DataW Unit := Go.Pinned.utf8First

/-- 'conchlaw14.FilesPass': WHATEVER THE INPUT: true; the input reads as it did. -/
def filesPassSpec : ChangeSpec := { name := "filesPass", fn := fun _ => fun
  | [d1, d2, d3] => { results := [.lit (.bool true)], args := [d1, d2, d3] }
  | _ => none }
def filesPassRow : OpenClaim := { program := "ytmlceloabmkjmaadoor", sum := "4600193566390fbfd92c815f6bdd1eb179f04bda261b9c87953ec2559ab5a988", func := "conch/conchlaw14.FilesPass", spec := "filesPass", inPlace := ["internal/bytealg.CountString", "internal/bytealg.IndexByteString", "internal/bytealg.IndexString"], unfollowed := true, recurses := true, named := ["unicode/utf8.first", "unicode/utf8.acceptRanges", "internal/bytealg.MaxLen"], apart := false, laid := [("unicode/utf8.acceptRanges", laid_unicode_utf8_acceptRanges), ("unicode/utf8.first", laid_unicode_utf8_first)] }
def FilesPassSaid : Prop := filesPassRow.holds Tryd.pinned (OpenSpec.ofChange filesPassSpec)

/-- ITS FALSE NEIGHBOUR: 'it returns false'. Refute it at one input. -/
def filesPassWrong : ChangeSpec := { name := "filesPass", fn := fun _ => fun
  | [d1, d2, d3] => { results := [.lit (.bool false)], args := [d1, d2, d3] }
  | _ => none }
def FilesPassWrongFalsely : Prop := filesPassRow.holds Tryd.pinned (OpenSpec.ofChange filesPassWrong)

/-- 'conchlaw14.FilesEnds': WHATEVER THE INPUT: true; the input reads as it did. -/
def filesEndsSpec : ChangeSpec := { name := "filesEnds", fn := fun _ => fun
  | [d1, d2] => { results := [.lit (.bool true)], args := [d1, d2] }
  | _ => none }
def filesEndsRow : OpenClaim := { program := "ytmlceloabmkjmaadoor", sum := "4600193566390fbfd92c815f6bdd1eb179f04bda261b9c87953ec2559ab5a988", func := "conch/conchlaw14.FilesEnds", spec := "filesEnds", inPlace := ["internal/bytealg.CountString", "internal/bytealg.IndexByteString", "internal/bytealg.IndexString"], unfollowed := true, recurses := true, named := ["unicode/utf8.first", "unicode/utf8.acceptRanges", "internal/bytealg.MaxLen"], apart := false, laid := [("unicode/utf8.acceptRanges", laid_unicode_utf8_acceptRanges), ("unicode/utf8.first", laid_unicode_utf8_first)] }
def FilesEndsSaid : Prop := filesEndsRow.holds Tryd.pinned (OpenSpec.ofChange filesEndsSpec)

/-- ITS FALSE NEIGHBOUR: 'it returns false'. Refute it at one input. -/
def filesEndsWrong : ChangeSpec := { name := "filesEnds", fn := fun _ => fun
  | [d1, d2] => { results := [.lit (.bool false)], args := [d1, d2] }
  | _ => none }
def FilesEndsWrongFalsely : Prop := filesEndsRow.holds Tryd.pinned (OpenSpec.ofChange filesEndsWrong)

/-- 'conchlaw14.FilesNil': WHATEVER THE INPUT: true; the input reads as it did. -/
def filesNilSpec : ChangeSpec := { name := "filesNil", fn := fun _ => fun
  | [d1, d2] => { results := [.lit (.bool true)], args := [d1, d2] }
  | _ => none }
def filesNilRow : OpenClaim := { program := "ytmlceloabmkjmaadoor", sum := "4600193566390fbfd92c815f6bdd1eb179f04bda261b9c87953ec2559ab5a988", func := "conch/conchlaw14.FilesNil", spec := "filesNil", inPlace := ["internal/bytealg.CountString", "internal/bytealg.IndexByteString", "internal/bytealg.IndexString"], unfollowed := true, recurses := true, named := ["unicode/utf8.first", "unicode/utf8.acceptRanges", "internal/bytealg.MaxLen"], apart := false, laid := [("unicode/utf8.acceptRanges", laid_unicode_utf8_acceptRanges), ("unicode/utf8.first", laid_unicode_utf8_first)] }
def FilesNilSaid : Prop := filesNilRow.holds Tryd.pinned (OpenSpec.ofChange filesNilSpec)

/-- ITS FALSE NEIGHBOUR: 'it returns false'. Refute it at one input. -/
def filesNilWrong : ChangeSpec := { name := "filesNil", fn := fun _ => fun
  | [d1, d2] => { results := [.lit (.bool false)], args := [d1, d2] }
  | _ => none }
def FilesNilWrongFalsely : Prop := filesNilRow.holds Tryd.pinned (OpenSpec.ofChange filesNilWrong)

/-- 'conchlaw14.FilesStays': WHATEVER THE INPUT: true; the input reads as it did. -/
def filesStaysSpec : ChangeSpec := { name := "filesStays", fn := fun _ => fun
  | [d] => { results := [.lit (.bool true)], args := [d] }
  | _ => none }
def filesStaysRow : OpenClaim := { program := "ytmlceloabmkjmaadoor", sum := "4600193566390fbfd92c815f6bdd1eb179f04bda261b9c87953ec2559ab5a988", func := "conch/conchlaw14.FilesStays", spec := "filesStays", inPlace := ["internal/bytealg.CountString", "internal/bytealg.IndexByteString", "internal/bytealg.IndexString"], unfollowed := true, recurses := true, named := ["unicode/utf8.first", "unicode/utf8.acceptRanges", "internal/bytealg.MaxLen"], apart := false, laid := [("unicode/utf8.acceptRanges", laid_unicode_utf8_acceptRanges), ("unicode/utf8.first", laid_unicode_utf8_first)] }
def FilesStaysSaid : Prop := filesStaysRow.holds Tryd.pinned (OpenSpec.ofChange filesStaysSpec)

/-- ITS FALSE NEIGHBOUR: 'it returns false'. Refute it at one input. -/
def filesStaysWrong : ChangeSpec := { name := "filesStays", fn := fun _ => fun
  | [d] => { results := [.lit (.bool false)], args := [d] }
  | _ => none }
def FilesStaysWrongFalsely : Prop := filesStaysRow.holds Tryd.pinned (OpenSpec.ofChange filesStaysWrong)

/- THE SECOND FORM. 'bulk': how many values and letters a reading holds, each counted each time it is reached (what is shared counts as often as it is met; a slice's spare places count too). A statement '..UptoSaid' is the law's where the arguments, and the package variables that the reading takes, are together of bulk at most 1048576: NARROWER than '..Said'. Prove '..Said' where nothing that the law and all that it calls make is longer than what came in: it says more and counts as full. Else prove '..UptoSaid'. A law counts once. -/
mutual
def uptoBulk {H : Type} : DataW H → Nat
  | .lit (.string bytes) => bytes.length + 1
  | .lit _ => 1
  | .nil => 1
  | .ptr d => uptoBulk d + 1
  | .slice elems spare => uptoBulkAll elems + uptoBulkAll spare + 1
  | .agg parts => uptoBulkAll parts + 1
  | .iface _ d => uptoBulk d + 1
  | .map entries => uptoBulkEntries entries + 1
  | .held _ => 1
def uptoBulkAll {H : Type} : List (DataW H) → Nat
  | [] => 0
  | d :: r => uptoBulk d + uptoBulkAll r
def uptoBulkEntries {H : Type} : List (Lit × DataW H) → Nat
  | [] => 0
  | x :: r => uptoBulkEntry x + uptoBulkEntries r
def uptoBulkEntry {H : Type} : Lit × DataW H → Nat
  | (.string bytes, d) => bytes.length + uptoBulk d + 1
  | (_, d) => uptoBulk d + 1
 end
def uptoSmall : (H : Type) → List (DataW H) → Bool := fun _ ds => decide (uptoBulkAll ds ≤ 1048576)
def OpenSpec.upto (s : _root_.Go.ChangeSpec) : _root_.Go.OpenSpec := { _root_.Go.OpenSpec.ofChange s with cond := some uptoSmall }

/-- 'conchlaw14.FilesPass', WHERE WHAT IT READS IS OF BULK AT MOST 1048576: true; the input reads as it did. -/
def filesPassUptoRow : OpenClaim := { program := "ytmlceloabmkjmaadoor", sum := "4600193566390fbfd92c815f6bdd1eb179f04bda261b9c87953ec2559ab5a988", func := "conch/conchlaw14.FilesPass", spec := "filesPass", inPlace := ["internal/bytealg.CountString", "internal/bytealg.IndexByteString", "internal/bytealg.IndexString"], unfollowed := true, recurses := true, named := ["unicode/utf8.first", "unicode/utf8.acceptRanges", "internal/bytealg.MaxLen"], apart := false, laid := [("unicode/utf8.acceptRanges", laid_unicode_utf8_acceptRanges), ("unicode/utf8.first", laid_unicode_utf8_first)], narrowed := true }
def FilesPassUptoSaid : Prop := filesPassUptoRow.holds Tryd.pinned (OpenSpec.upto filesPassSpec)

/-- 'conchlaw14.FilesEnds', WHERE WHAT IT READS IS OF BULK AT MOST 1048576: true; the input reads as it did. -/
def filesEndsUptoRow : OpenClaim := { program := "ytmlceloabmkjmaadoor", sum := "4600193566390fbfd92c815f6bdd1eb179f04bda261b9c87953ec2559ab5a988", func := "conch/conchlaw14.FilesEnds", spec := "filesEnds", inPlace := ["internal/bytealg.CountString", "internal/bytealg.IndexByteString", "internal/bytealg.IndexString"], unfollowed := true, recurses := true, named := ["unicode/utf8.first", "unicode/utf8.acceptRanges", "internal/bytealg.MaxLen"], apart := false, laid := [("unicode/utf8.acceptRanges", laid_unicode_utf8_acceptRanges), ("unicode/utf8.first", laid_unicode_utf8_first)], narrowed := true }
def FilesEndsUptoSaid : Prop := filesEndsUptoRow.holds Tryd.pinned (OpenSpec.upto filesEndsSpec)

/-- 'conchlaw14.FilesNil', WHERE WHAT IT READS IS OF BULK AT MOST 1048576: true; the input reads as it did. -/
def filesNilUptoRow : OpenClaim := { program := "ytmlceloabmkjmaadoor", sum := "4600193566390fbfd92c815f6bdd1eb179f04bda261b9c87953ec2559ab5a988", func := "conch/conchlaw14.FilesNil", spec := "filesNil", inPlace := ["internal/bytealg.CountString", "internal/bytealg.IndexByteString", "internal/bytealg.IndexString"], unfollowed := true, recurses := true, named := ["unicode/utf8.first", "unicode/utf8.acceptRanges", "internal/bytealg.MaxLen"], apart := false, laid := [("unicode/utf8.acceptRanges", laid_unicode_utf8_acceptRanges), ("unicode/utf8.first", laid_unicode_utf8_first)], narrowed := true }
def FilesNilUptoSaid : Prop := filesNilUptoRow.holds Tryd.pinned (OpenSpec.upto filesNilSpec)

/-- 'conchlaw14.FilesStays', WHERE WHAT IT READS IS OF BULK AT MOST 1048576: true; the input reads as it did. -/
def filesStaysUptoRow : OpenClaim := { program := "ytmlceloabmkjmaadoor", sum := "4600193566390fbfd92c815f6bdd1eb179f04bda261b9c87953ec2559ab5a988", func := "conch/conchlaw14.FilesStays", spec := "filesStays", inPlace := ["internal/bytealg.CountString", "internal/bytealg.IndexByteString", "internal/bytealg.IndexString"], unfollowed := true, recurses := true, named := ["unicode/utf8.first", "unicode/utf8.acceptRanges", "internal/bytealg.MaxLen"], apart := false, laid := [("unicode/utf8.acceptRanges", laid_unicode_utf8_acceptRanges), ("unicode/utf8.first", laid_unicode_utf8_first)], narrowed := true }
def FilesStaysUptoSaid : Prop := filesStaysUptoRow.holds Tryd.pinned (OpenSpec.upto filesStaysSpec)

end Rows
end Go.Proofs.YtmlceloabmkjmaaDoor
