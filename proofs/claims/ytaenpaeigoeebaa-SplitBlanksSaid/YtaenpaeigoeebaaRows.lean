/-
  No cell of these rows narrows 'for every input' (looked for: loops, veiled, ifaces, maps, wideKeys, modest, calm, conditions, laid).
  DERIVED. THE GIVEN ROWS OF THIS SEAT. 5 by the template 'for every input the law returns true; each argument reads behind the call as it read before'; 0 by the template 'total and deterministic' (their statements: YtaenpaeigoeebaaTotals.lean).
  GIVEN WITH THE SEED: the statements are not yours to turn. If you find one false, say at which input.
  Laid BY PROGRAM, IN A SANDBOX (cutbox-rows.mjs): the forced cells as the released guide's own fill.sh prints them over the translation 1b6a3a6bc086f35f… (all of the seat's roots in one cut). By AI agents, Wed Nov 11 2026. No macro, syntax, notation, axiom, sorry.
-/
import Derived.Test.YtaenpaeigoeebaaChecked
import GoSem.Claim
import GoSem.ClaimJoined
import GoSem.ClaimMapViews
import Derived.JoinedTies
import Derived.KernelRfl
namespace Go.Proofs.Ytaenpaeigoeebaa
/- THE CELL 'sum', in the pinned program and in every row, IS THE sha256 OF THE DUMP (.gsa) THAT YtaenpaeigoeebaaProg.lean LOADS. Nothing in Lean hashes anything: it is a label: what it is worth is what the hold of that sum in a sandbox is worth. -/
noncomputable def Try.pinned : Pinned := { name := "ytaenpaeigoeebaa", sum := "1b6a3a6bc086f35f45662f46206f2f1d7b7f4dfc11dade580660322e4f062f8a", checked := Try.checked }
namespace Rows
def none {H : Type} : Left H := { results := [], args := [] }

/-- 'conchlaw09.SplitKeeps': WHATEVER THE INPUT: true; the input reads as it did. -/
def splitKeepsSpec : ChangeSpec := { name := "splitKeeps", fn := fun _ => fun
  | [d1, d2] => { results := [.lit (.bool true)], args := [d1, d2] }
  | _ => none }
def splitKeepsRow : OpenClaim := { program := "ytaenpaeigoeebaa", sum := "1b6a3a6bc086f35f45662f46206f2f1d7b7f4dfc11dade580660322e4f062f8a", func := "conch/conchlaw09.SplitKeeps", spec := "splitKeeps", inPlace := ["internal/abi.NoEscape", "internal/bytealg.IndexByteString"], unfollowed := true, recurses := true, apart := false }
def SplitKeepsSaid : Prop := splitKeepsRow.holds Try.pinned (OpenSpec.ofChange splitKeepsSpec)

/-- ITS FALSE NEIGHBOUR: 'it returns false'. Refute it at one input. -/
def splitKeepsWrong : ChangeSpec := { name := "splitKeeps", fn := fun _ => fun
  | [d1, d2] => { results := [.lit (.bool false)], args := [d1, d2] }
  | _ => none }
def SplitKeepsWrongFalsely : Prop := splitKeepsRow.holds Try.pinned (OpenSpec.ofChange splitKeepsWrong)

/-- 'conchlaw09.SplitBlanks': WHATEVER THE INPUT: true; the input reads as it did. -/
def splitBlanksSpec : ChangeSpec := { name := "splitBlanks", fn := fun _ => fun
  | [d1, d2] => { results := [.lit (.bool true)], args := [d1, d2] }
  | _ => none }
def splitBlanksRow : OpenClaim := { program := "ytaenpaeigoeebaa", sum := "1b6a3a6bc086f35f45662f46206f2f1d7b7f4dfc11dade580660322e4f062f8a", func := "conch/conchlaw09.SplitBlanks", spec := "splitBlanks", inPlace := ["internal/abi.NoEscape", "internal/bytealg.IndexByteString"], unfollowed := true, recurses := true, apart := false }
def SplitBlanksSaid : Prop := splitBlanksRow.holds Try.pinned (OpenSpec.ofChange splitBlanksSpec)

/-- ITS FALSE NEIGHBOUR: 'it returns false'. Refute it at one input. -/
def splitBlanksWrong : ChangeSpec := { name := "splitBlanks", fn := fun _ => fun
  | [d1, d2] => { results := [.lit (.bool false)], args := [d1, d2] }
  | _ => none }
def SplitBlanksWrongFalsely : Prop := splitBlanksRow.holds Try.pinned (OpenSpec.ofChange splitBlanksWrong)

/-- 'conchlaw09.SplitHard': WHATEVER THE INPUT: true; the input reads as it did. -/
def splitHardSpec : ChangeSpec := { name := "splitHard", fn := fun _ => fun
  | [d] => { results := [.lit (.bool true)], args := [d] }
  | _ => none }
def splitHardRow : OpenClaim := { program := "ytaenpaeigoeebaa", sum := "1b6a3a6bc086f35f45662f46206f2f1d7b7f4dfc11dade580660322e4f062f8a", func := "conch/conchlaw09.SplitHard", spec := "splitHard", inPlace := ["internal/abi.NoEscape", "internal/bytealg.IndexByteString"], unfollowed := true, recurses := true, apart := false }
def SplitHardSaid : Prop := splitHardRow.holds Try.pinned (OpenSpec.ofChange splitHardSpec)

/-- ITS FALSE NEIGHBOUR: 'it returns false'. Refute it at one input. -/
def splitHardWrong : ChangeSpec := { name := "splitHard", fn := fun _ => fun
  | [d] => { results := [.lit (.bool false)], args := [d] }
  | _ => none }
def SplitHardWrongFalsely : Prop := splitHardRow.holds Try.pinned (OpenSpec.ofChange splitHardWrong)

/-- 'conchlaw09.SplitFields': WHATEVER THE INPUT: true; the input reads as it did. -/
def splitFieldsSpec : ChangeSpec := { name := "splitFields", fn := fun _ => fun
  | [d1, d2] => { results := [.lit (.bool true)], args := [d1, d2] }
  | _ => none }
def splitFieldsRow : OpenClaim := { program := "ytaenpaeigoeebaa", sum := "1b6a3a6bc086f35f45662f46206f2f1d7b7f4dfc11dade580660322e4f062f8a", func := "conch/conchlaw09.SplitFields", spec := "splitFields", inPlace := ["internal/abi.NoEscape", "internal/bytealg.IndexByteString"], unfollowed := true, recurses := true, apart := false }
def SplitFieldsSaid : Prop := splitFieldsRow.holds Try.pinned (OpenSpec.ofChange splitFieldsSpec)

/-- ITS FALSE NEIGHBOUR: 'it returns false'. Refute it at one input. -/
def splitFieldsWrong : ChangeSpec := { name := "splitFields", fn := fun _ => fun
  | [d1, d2] => { results := [.lit (.bool false)], args := [d1, d2] }
  | _ => none }
def SplitFieldsWrongFalsely : Prop := splitFieldsRow.holds Try.pinned (OpenSpec.ofChange splitFieldsWrong)

/-- 'conchlaw09.SplitWhole': WHATEVER THE INPUT: true; the input reads as it did. -/
def splitWholeSpec : ChangeSpec := { name := "splitWhole", fn := fun _ => fun
  | [d1, d2] => { results := [.lit (.bool true)], args := [d1, d2] }
  | _ => none }
def splitWholeRow : OpenClaim := { program := "ytaenpaeigoeebaa", sum := "1b6a3a6bc086f35f45662f46206f2f1d7b7f4dfc11dade580660322e4f062f8a", func := "conch/conchlaw09.SplitWhole", spec := "splitWhole", inPlace := ["internal/abi.NoEscape", "internal/bytealg.IndexByteString"], unfollowed := true, recurses := true, apart := false }
def SplitWholeSaid : Prop := splitWholeRow.holds Try.pinned (OpenSpec.ofChange splitWholeSpec)

/-- ITS FALSE NEIGHBOUR: 'it returns false'. Refute it at one input. -/
def splitWholeWrong : ChangeSpec := { name := "splitWhole", fn := fun _ => fun
  | [d1, d2] => { results := [.lit (.bool false)], args := [d1, d2] }
  | _ => none }
def SplitWholeWrongFalsely : Prop := splitWholeRow.holds Try.pinned (OpenSpec.ofChange splitWholeWrong)

/- THE SECOND FORM. 'bulk': how many values and letters a reading holds, each counted each time it is reached (what is shared counts as often as it is met; a slice's spare places count too). A statement '..UptoSaid' is the law's where the arguments, and the package variables that the reading takes, are together of bulk at most 1048576: NARROWER than '..Said'. Prove '..Said' where nothing that the law and all that it calls make is longer than what came in: it says more and counts as full. Else prove '..UptoSaid'. A law counts once. -/
mutual
def uptoBulk {H : Type} : DataW H → Nat
  | .lit (.string bytes) => bytes.length + 1
  | .lit _ => 1
  | .nil => 1
  | .ptr d => uptoBulk d + 1
  | .slice elems spare => uptoBulkAll elems + uptoBulkAll spare + 1
  | .agg parts => uptoBulkAll parts + 1
  | .iface _ d => uptoBulk d + 1
  | .map entries => uptoBulkEntries entries + 1
  | .held _ => 1
def uptoBulkAll {H : Type} : List (DataW H) → Nat
  | [] => 0
  | d :: r => uptoBulk d + uptoBulkAll r
def uptoBulkEntries {H : Type} : List (Lit × DataW H) → Nat
  | [] => 0
  | x :: r => uptoBulkEntry x + uptoBulkEntries r
def uptoBulkEntry {H : Type} : Lit × DataW H → Nat
  | (.string bytes, d) => bytes.length + uptoBulk d + 1
  | (_, d) => uptoBulk d + 1
 end
def uptoSmall : (H : Type) → List (DataW H) → Bool := fun _ ds => decide (uptoBulkAll ds ≤ 1048576)
def OpenSpec.upto (s : _root_.Go.ChangeSpec) : _root_.Go.OpenSpec := { _root_.Go.OpenSpec.ofChange s with cond := some uptoSmall }

/-- 'conchlaw09.SplitKeeps', WHERE WHAT IT READS IS OF BULK AT MOST 1048576: true; the input reads as it did. -/
def splitKeepsUptoRow : OpenClaim := { program := "ytaenpaeigoeebaa", sum := "1b6a3a6bc086f35f45662f46206f2f1d7b7f4dfc11dade580660322e4f062f8a", func := "conch/conchlaw09.SplitKeeps", spec := "splitKeeps", inPlace := ["internal/abi.NoEscape", "internal/bytealg.IndexByteString"], unfollowed := true, recurses := true, apart := false, narrowed := true }
def SplitKeepsUptoSaid : Prop := splitKeepsUptoRow.holds Try.pinned (OpenSpec.upto splitKeepsSpec)

/-- 'conchlaw09.SplitBlanks', WHERE WHAT IT READS IS OF BULK AT MOST 1048576: true; the input reads as it did. -/
def splitBlanksUptoRow : OpenClaim := { program := "ytaenpaeigoeebaa", sum := "1b6a3a6bc086f35f45662f46206f2f1d7b7f4dfc11dade580660322e4f062f8a", func := "conch/conchlaw09.SplitBlanks", spec := "splitBlanks", inPlace := ["internal/abi.NoEscape", "internal/bytealg.IndexByteString"], unfollowed := true, recurses := true, apart := false, narrowed := true }
def SplitBlanksUptoSaid : Prop := splitBlanksUptoRow.holds Try.pinned (OpenSpec.upto splitBlanksSpec)

/-- 'conchlaw09.SplitHard', WHERE WHAT IT READS IS OF BULK AT MOST 1048576: true; the input reads as it did. -/
def splitHardUptoRow : OpenClaim := { program := "ytaenpaeigoeebaa", sum := "1b6a3a6bc086f35f45662f46206f2f1d7b7f4dfc11dade580660322e4f062f8a", func := "conch/conchlaw09.SplitHard", spec := "splitHard", inPlace := ["internal/abi.NoEscape", "internal/bytealg.IndexByteString"], unfollowed := true, recurses := true, apart := false, narrowed := true }
def SplitHardUptoSaid : Prop := splitHardUptoRow.holds Try.pinned (OpenSpec.upto splitHardSpec)

/-- 'conchlaw09.SplitFields', WHERE WHAT IT READS IS OF BULK AT MOST 1048576: true; the input reads as it did. -/
def splitFieldsUptoRow : OpenClaim := { program := "ytaenpaeigoeebaa", sum := "1b6a3a6bc086f35f45662f46206f2f1d7b7f4dfc11dade580660322e4f062f8a", func := "conch/conchlaw09.SplitFields", spec := "splitFields", inPlace := ["internal/abi.NoEscape", "internal/bytealg.IndexByteString"], unfollowed := true, recurses := true, apart := false, narrowed := true }
def SplitFieldsUptoSaid : Prop := splitFieldsUptoRow.holds Try.pinned (OpenSpec.upto splitFieldsSpec)

/-- 'conchlaw09.SplitWhole', WHERE WHAT IT READS IS OF BULK AT MOST 1048576: true; the input reads as it did. -/
def splitWholeUptoRow : OpenClaim := { program := "ytaenpaeigoeebaa", sum := "1b6a3a6bc086f35f45662f46206f2f1d7b7f4dfc11dade580660322e4f062f8a", func := "conch/conchlaw09.SplitWhole", spec := "splitWhole", inPlace := ["internal/abi.NoEscape", "internal/bytealg.IndexByteString"], unfollowed := true, recurses := true, apart := false, narrowed := true }
def SplitWholeUptoSaid : Prop := splitWholeUptoRow.holds Try.pinned (OpenSpec.upto splitWholeSpec)

end Rows
end Go.Proofs.Ytaenpaeigoeebaa
