/-
  NARROWER THAN 'FOR EVERY INPUT', by the rows' own cells (each row's printed sentence says how): LexStands: laid · LexAgain: laid · LexCuts: laid · LexPieces: laid.
  DERIVED. THE GIVEN ROWS OF THIS SEAT. 4 by the template 'for every input the law returns true; each argument reads behind the call as it read before'; 0 by the template 'total and deterministic' (their statements: YtgijohcmkipkhaaDoorTotals.lean).
  GIVEN WITH THE SEED: the statements are not yours to turn. If you find one false, say at which input.
  Laid BY PROGRAM, IN A SANDBOX (cutbox-rows.mjs): the forced cells as the released guide's own fill.sh prints them over the translation 21bbfd9a1de860c5… (all of the seat's roots in one cut). By AI agents, Wed Nov 11 2026. No macro, syntax, notation, axiom, sorry.
-/
import Derived.Test.YtgijohcmkipkhaaDoorChecked
import GoSem.PinnedTables
import GoSem.Claim
import GoSem.ClaimJoined
import GoSem.ClaimMapViews
import Derived.JoinedTies
import Derived.KernelRfl
namespace Go.Proofs.YtgijohcmkipkhaaDoor
/- THE CELL 'sum', in the pinned program and in every row, IS THE sha256 OF THE DUMP (.gsa) THAT YtgijohcmkipkhaaDoorProg.lean LOADS. Nothing in Lean hashes anything: it is a label: what it is worth is what the hold of that sum in a sandbox is worth. -/
noncomputable def Tryd.pinned : Pinned := { name := "ytgijohcmkipkhaadoor", sum := "21bbfd9a1de860c5a6891ef4dee78009e555434732f7a6e0b5b9e4bbe976c33a", checked := Tryd.checked }
namespace Rows
def none {H : Type} : Left H := { results := [], args := [] }

/- WHAT THE LISTED PACKAGE-LEVEL VARIABLES READ AS WHEN THE CALL BEGINS. Each datum BY PROGRAM (the guide's laid-datum.mjs) off the statement by which the dump's own 'gosem.cut.vars' lays the variable. In a bare row this is a premise. The card (YtgijohcmkipkhaaDoorCards.lean) ties it to the program's text. -/
def laid_unicode_utf8_acceptRanges {H : Type} : DataW H := .agg [.agg [.lit (.int .u8 128), .lit (.int .u8 191)], .agg [.lit (.int .u8 160), .lit (.int .u8 191)], .agg [.lit (.int .u8 128), .lit (.int .u8 159)], .agg [.lit (.int .u8 144), .lit (.int .u8 191)], .agg [.lit (.int .u8 128), .lit (.int .u8 143)], .agg [.lit (.int .u8 0), .lit (.int .u8 0)], .agg [.lit (.int .u8 0), .lit (.int .u8 0)], .agg [.lit (.int .u8 0), .lit (.int .u8 0)], .agg [.lit (.int .u8 0), .lit (.int .u8 0)], .agg [.lit (.int .u8 0), .lit (.int .u8 0)], .agg [.lit (.int .u8 0), .lit (.int .u8 0)], .agg [.lit (.int .u8 0), .lit (.int .u8 0)], .agg [.lit (.int .u8 0), .lit (.int .u8 0)], .agg [.lit (.int .u8 0), .lit (.int .u8 0)], .agg [.lit (.int .u8 0), .lit (.int .u8 0)], .agg [.lit (.int .u8 0), .lit (.int .u8 0)]]
/-- One of Go's own tables, pinned by name: the form's constant. -/
def laid_unicode_utf8_first : DataW Unit := Go.Pinned.utf8First

/-- 'conchlaw04.LexStands': WHATEVER THE INPUT: true; the input reads as it did. -/
def lexStandsSpec : ChangeSpec := { name := "lexStands", fn := fun _ => fun
  | [d] => { results := [.lit (.bool true)], args := [d] }
  | _ => none }
def lexStandsRow : OpenClaim := { program := "ytgijohcmkipkhaadoor", sum := "21bbfd9a1de860c5a6891ef4dee78009e555434732f7a6e0b5b9e4bbe976c33a", func := "conch/conchlaw04.LexStands", spec := "lexStands", inPlace := ["internal/bytealg.IndexByteString", "internal/bytealg.IndexString", "internal/abi.NoEscape"], unfollowed := true, recurses := true, named := ["internal/bytealg.MaxLen", "unicode/utf8.first", "unicode/utf8.acceptRanges"], apart := false, laid := [("unicode/utf8.acceptRanges", laid_unicode_utf8_acceptRanges), ("unicode/utf8.first", laid_unicode_utf8_first)] }
def LexStandsSaid : Prop := lexStandsRow.holds Tryd.pinned (OpenSpec.ofChange lexStandsSpec)

/-- ITS FALSE NEIGHBOUR: 'it returns false'. Refute it at one input. -/
def lexStandsWrong : ChangeSpec := { name := "lexStands", fn := fun _ => fun
  | [d] => { results := [.lit (.bool false)], args := [d] }
  | _ => none }
def LexStandsWrongFalsely : Prop := lexStandsRow.holds Tryd.pinned (OpenSpec.ofChange lexStandsWrong)

/-- 'conchlaw04.LexAgain': WHATEVER THE INPUT: true; the input reads as it did. -/
def lexAgainSpec : ChangeSpec := { name := "lexAgain", fn := fun _ => fun
  | [d] => { results := [.lit (.bool true)], args := [d] }
  | _ => none }
def lexAgainRow : OpenClaim := { program := "ytgijohcmkipkhaadoor", sum := "21bbfd9a1de860c5a6891ef4dee78009e555434732f7a6e0b5b9e4bbe976c33a", func := "conch/conchlaw04.LexAgain", spec := "lexAgain", inPlace := ["internal/bytealg.IndexByteString", "internal/bytealg.IndexString", "internal/abi.NoEscape"], unfollowed := true, recurses := true, named := ["internal/bytealg.MaxLen", "unicode/utf8.first", "unicode/utf8.acceptRanges"], apart := false, laid := [("unicode/utf8.acceptRanges", laid_unicode_utf8_acceptRanges), ("unicode/utf8.first", laid_unicode_utf8_first)] }
def LexAgainSaid : Prop := lexAgainRow.holds Tryd.pinned (OpenSpec.ofChange lexAgainSpec)

/-- ITS FALSE NEIGHBOUR: 'it returns false'. Refute it at one input. -/
def lexAgainWrong : ChangeSpec := { name := "lexAgain", fn := fun _ => fun
  | [d] => { results := [.lit (.bool false)], args := [d] }
  | _ => none }
def LexAgainWrongFalsely : Prop := lexAgainRow.holds Tryd.pinned (OpenSpec.ofChange lexAgainWrong)

/-- 'conchlaw04.LexCuts': WHATEVER THE INPUT: true; the input reads as it did. -/
def lexCutsSpec : ChangeSpec := { name := "lexCuts", fn := fun _ => fun
  | [d1, d2] => { results := [.lit (.bool true)], args := [d1, d2] }
  | _ => none }
def lexCutsRow : OpenClaim := { program := "ytgijohcmkipkhaadoor", sum := "21bbfd9a1de860c5a6891ef4dee78009e555434732f7a6e0b5b9e4bbe976c33a", func := "conch/conchlaw04.LexCuts", spec := "lexCuts", inPlace := ["internal/bytealg.IndexByteString", "internal/bytealg.IndexString", "internal/abi.NoEscape"], unfollowed := true, recurses := true, named := ["internal/bytealg.MaxLen", "unicode/utf8.first", "unicode/utf8.acceptRanges"], apart := false, laid := [("unicode/utf8.acceptRanges", laid_unicode_utf8_acceptRanges), ("unicode/utf8.first", laid_unicode_utf8_first)] }
def LexCutsSaid : Prop := lexCutsRow.holds Tryd.pinned (OpenSpec.ofChange lexCutsSpec)

/-- ITS FALSE NEIGHBOUR: 'it returns false'. Refute it at one input. -/
def lexCutsWrong : ChangeSpec := { name := "lexCuts", fn := fun _ => fun
  | [d1, d2] => { results := [.lit (.bool false)], args := [d1, d2] }
  | _ => none }
def LexCutsWrongFalsely : Prop := lexCutsRow.holds Tryd.pinned (OpenSpec.ofChange lexCutsWrong)

/-- 'conchlaw04.LexPieces': WHATEVER THE INPUT: true; the input reads as it did. -/
def lexPiecesSpec : ChangeSpec := { name := "lexPieces", fn := fun _ => fun
  | [d1, d2, d3] => { results := [.lit (.bool true)], args := [d1, d2, d3] }
  | _ => none }
def lexPiecesRow : OpenClaim := { program := "ytgijohcmkipkhaadoor", sum := "21bbfd9a1de860c5a6891ef4dee78009e555434732f7a6e0b5b9e4bbe976c33a", func := "conch/conchlaw04.LexPieces", spec := "lexPieces", inPlace := ["internal/bytealg.IndexByteString", "internal/bytealg.IndexString", "internal/abi.NoEscape"], unfollowed := true, recurses := true, named := ["internal/bytealg.MaxLen", "unicode/utf8.first", "unicode/utf8.acceptRanges"], apart := false, laid := [("unicode/utf8.acceptRanges", laid_unicode_utf8_acceptRanges), ("unicode/utf8.first", laid_unicode_utf8_first)] }
def LexPiecesSaid : Prop := lexPiecesRow.holds Tryd.pinned (OpenSpec.ofChange lexPiecesSpec)

/-- ITS FALSE NEIGHBOUR: 'it returns false'. Refute it at one input. -/
def lexPiecesWrong : ChangeSpec := { name := "lexPieces", fn := fun _ => fun
  | [d1, d2, d3] => { results := [.lit (.bool false)], args := [d1, d2, d3] }
  | _ => none }
def LexPiecesWrongFalsely : Prop := lexPiecesRow.holds Tryd.pinned (OpenSpec.ofChange lexPiecesWrong)

/- THE SECOND FORM. 'bulk': how many values and letters a reading holds, each counted each time it is reached (what is shared counts as often as it is met; a slice's spare places count too). A statement '..UptoSaid' is the law's where the arguments, and the package variables that the reading takes, are together of bulk at most 1048576: NARROWER than '..Said'. Prove '..Said' where nothing that the law and all that it calls make is longer than what came in: it says more and counts as full. Else prove '..UptoSaid'. A law counts once. -/
mutual
def uptoBulk {H : Type} : DataW H → Nat
  | .lit (.string bytes) => bytes.length + 1
  | .lit _ => 1
  | .nil => 1
  | .ptr d => uptoBulk d + 1
  | .slice elems spare => uptoBulkAll elems + uptoBulkAll spare + 1
  | .agg parts => uptoBulkAll parts + 1
  | .iface _ d => uptoBulk d + 1
  | .map entries => uptoBulkEntries entries + 1
  | .held _ => 1
def uptoBulkAll {H : Type} : List (DataW H) → Nat
  | [] => 0
  | d :: r => uptoBulk d + uptoBulkAll r
def uptoBulkEntries {H : Type} : List (Lit × DataW H) → Nat
  | [] => 0
  | x :: r => uptoBulkEntry x + uptoBulkEntries r
def uptoBulkEntry {H : Type} : Lit × DataW H → Nat
  | (.string bytes, d) => bytes.length + uptoBulk d + 1
  | (_, d) => uptoBulk d + 1
 end
def uptoSmall : (H : Type) → List (DataW H) → Bool := fun _ ds => decide (uptoBulkAll ds ≤ 1048576)
def OpenSpec.upto (s : _root_.Go.ChangeSpec) : _root_.Go.OpenSpec := { _root_.Go.OpenSpec.ofChange s with cond := some uptoSmall }

/-- 'conchlaw04.LexStands', WHERE WHAT IT READS IS OF BULK AT MOST 1048576: true; the input reads as it did. -/
def lexStandsUptoRow : OpenClaim := { program := "ytgijohcmkipkhaadoor", sum := "21bbfd9a1de860c5a6891ef4dee78009e555434732f7a6e0b5b9e4bbe976c33a", func := "conch/conchlaw04.LexStands", spec := "lexStands", inPlace := ["internal/bytealg.IndexByteString", "internal/bytealg.IndexString", "internal/abi.NoEscape"], unfollowed := true, recurses := true, named := ["internal/bytealg.MaxLen", "unicode/utf8.first", "unicode/utf8.acceptRanges"], apart := false, laid := [("unicode/utf8.acceptRanges", laid_unicode_utf8_acceptRanges), ("unicode/utf8.first", laid_unicode_utf8_first)], narrowed := true }
def LexStandsUptoSaid : Prop := lexStandsUptoRow.holds Tryd.pinned (OpenSpec.upto lexStandsSpec)

/-- 'conchlaw04.LexAgain', WHERE WHAT IT READS IS OF BULK AT MOST 1048576: true; the input reads as it did. -/
def lexAgainUptoRow : OpenClaim := { program := "ytgijohcmkipkhaadoor", sum := "21bbfd9a1de860c5a6891ef4dee78009e555434732f7a6e0b5b9e4bbe976c33a", func := "conch/conchlaw04.LexAgain", spec := "lexAgain", inPlace := ["internal/bytealg.IndexByteString", "internal/bytealg.IndexString", "internal/abi.NoEscape"], unfollowed := true, recurses := true, named := ["internal/bytealg.MaxLen", "unicode/utf8.first", "unicode/utf8.acceptRanges"], apart := false, laid := [("unicode/utf8.acceptRanges", laid_unicode_utf8_acceptRanges), ("unicode/utf8.first", laid_unicode_utf8_first)], narrowed := true }
def LexAgainUptoSaid : Prop := lexAgainUptoRow.holds Tryd.pinned (OpenSpec.upto lexAgainSpec)

/-- 'conchlaw04.LexCuts', WHERE WHAT IT READS IS OF BULK AT MOST 1048576: true; the input reads as it did. -/
def lexCutsUptoRow : OpenClaim := { program := "ytgijohcmkipkhaadoor", sum := "21bbfd9a1de860c5a6891ef4dee78009e555434732f7a6e0b5b9e4bbe976c33a", func := "conch/conchlaw04.LexCuts", spec := "lexCuts", inPlace := ["internal/bytealg.IndexByteString", "internal/bytealg.IndexString", "internal/abi.NoEscape"], unfollowed := true, recurses := true, named := ["internal/bytealg.MaxLen", "unicode/utf8.first", "unicode/utf8.acceptRanges"], apart := false, laid := [("unicode/utf8.acceptRanges", laid_unicode_utf8_acceptRanges), ("unicode/utf8.first", laid_unicode_utf8_first)], narrowed := true }
def LexCutsUptoSaid : Prop := lexCutsUptoRow.holds Tryd.pinned (OpenSpec.upto lexCutsSpec)

/-- 'conchlaw04.LexPieces', WHERE WHAT IT READS IS OF BULK AT MOST 1048576: true; the input reads as it did. -/
def lexPiecesUptoRow : OpenClaim := { program := "ytgijohcmkipkhaadoor", sum := "21bbfd9a1de860c5a6891ef4dee78009e555434732f7a6e0b5b9e4bbe976c33a", func := "conch/conchlaw04.LexPieces", spec := "lexPieces", inPlace := ["internal/bytealg.IndexByteString", "internal/bytealg.IndexString", "internal/abi.NoEscape"], unfollowed := true, recurses := true, named := ["internal/bytealg.MaxLen", "unicode/utf8.first", "unicode/utf8.acceptRanges"], apart := false, laid := [("unicode/utf8.acceptRanges", laid_unicode_utf8_acceptRanges), ("unicode/utf8.first", laid_unicode_utf8_first)], narrowed := true }
def LexPiecesUptoSaid : Prop := lexPiecesUptoRow.holds Tryd.pinned (OpenSpec.upto lexPiecesSpec)

end Rows
end Go.Proofs.YtgijohcmkipkhaaDoor
