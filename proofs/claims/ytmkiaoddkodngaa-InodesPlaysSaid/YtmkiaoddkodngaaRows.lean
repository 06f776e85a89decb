/-
  No cell of these rows narrows 'for every input' (looked for: loops, veiled, ifaces, maps, wideKeys, modest, calm, conditions, laid).
  DERIVED. THE GIVEN ROWS OF THIS SEAT. 6 by the template 'for every input the law returns true; each argument reads behind the call as it read before'; 0 by the template 'total and deterministic' (their statements: YtmkiaoddkodngaaTotals.lean).
  GIVEN WITH THE SEED: the statements are not yours to turn. If you find one false, say at which input.
  Laid BY PROGRAM, IN A SANDBOX (cutbox-rows.mjs): the forced cells as the released guide's own fill.sh prints them over the translation 7642b912797831cf… (all of the seat's roots in one cut). By AI agents, Wed Nov 11 2026. No macro, syntax, notation, axiom, sorry.
-/
import Derived.Test.YtmkiaoddkodngaaChecked
import GoSem.Claim
import GoSem.ClaimJoined
import GoSem.ClaimMapViews
import Derived.JoinedTies
import Derived.KernelRfl
namespace Go.Proofs.Ytmkiaoddkodngaa
/- THE CELL 'sum', in the pinned program and in every row, IS THE sha256 OF THE DUMP (.gsa) THAT YtmkiaoddkodngaaProg.lean LOADS. Nothing in Lean hashes anything: it is a label: what it is worth is what the hold of that sum in a sandbox is worth. -/
noncomputable def Try.pinned : Pinned := { name := "ytmkiaoddkodngaa", sum := "7642b912797831cfa76361f13eab7e62ad1a7757bc3c6e9eab016d22bb55d90c", checked := Try.checked }
namespace Rows
def none {H : Type} : Left H := { results := [], args := [] }

/-- 'conchlaw12.InodesKeeps': WHATEVER THE INPUT: true; the input reads as it did. -/
def inodesKeepsSpec : ChangeSpec := { name := "inodesKeeps", fn := fun _ => fun
  | [d1, d2, d3] => { results := [.lit (.bool true)], args := [d1, d2, d3] }
  | _ => none }
def inodesKeepsRow : OpenClaim := { program := "ytmkiaoddkodngaa", sum := "7642b912797831cfa76361f13eab7e62ad1a7757bc3c6e9eab016d22bb55d90c", func := "conch/conchlaw12.InodesKeeps", spec := "inodesKeeps", unfollowed := true, recurses := true, apart := false }
def InodesKeepsSaid : Prop := inodesKeepsRow.holds Try.pinned (OpenSpec.ofChange inodesKeepsSpec)

/-- ITS FALSE NEIGHBOUR: 'it returns false'. Refute it at one input. -/
def inodesKeepsWrong : ChangeSpec := { name := "inodesKeeps", fn := fun _ => fun
  | [d1, d2, d3] => { results := [.lit (.bool false)], args := [d1, d2, d3] }
  | _ => none }
def InodesKeepsWrongFalsely : Prop := inodesKeepsRow.holds Try.pinned (OpenSpec.ofChange inodesKeepsWrong)

/-- 'conchlaw12.InodesFull': WHATEVER THE INPUT: true; the input reads as it did. -/
def inodesFullSpec : ChangeSpec := { name := "inodesFull", fn := fun _ => fun
  | [d1, d2, d3] => { results := [.lit (.bool true)], args := [d1, d2, d3] }
  | _ => none }
def inodesFullRow : OpenClaim := { program := "ytmkiaoddkodngaa", sum := "7642b912797831cfa76361f13eab7e62ad1a7757bc3c6e9eab016d22bb55d90c", func := "conch/conchlaw12.InodesFull", spec := "inodesFull", unfollowed := true, recurses := true, apart := false }
def InodesFullSaid : Prop := inodesFullRow.holds Try.pinned (OpenSpec.ofChange inodesFullSpec)

/-- ITS FALSE NEIGHBOUR: 'it returns false'. Refute it at one input. -/
def inodesFullWrong : ChangeSpec := { name := "inodesFull", fn := fun _ => fun
  | [d1, d2, d3] => { results := [.lit (.bool false)], args := [d1, d2, d3] }
  | _ => none }
def InodesFullWrongFalsely : Prop := inodesFullRow.holds Try.pinned (OpenSpec.ofChange inodesFullWrong)

/-- 'conchlaw12.InodesCuts': WHATEVER THE INPUT: true; the input reads as it did. -/
def inodesCutsSpec : ChangeSpec := { name := "inodesCuts", fn := fun _ => fun
  | [d1, d2] => { results := [.lit (.bool true)], args := [d1, d2] }
  | _ => none }
def inodesCutsRow : OpenClaim := { program := "ytmkiaoddkodngaa", sum := "7642b912797831cfa76361f13eab7e62ad1a7757bc3c6e9eab016d22bb55d90c", func := "conch/conchlaw12.InodesCuts", spec := "inodesCuts", unfollowed := true, recurses := true, apart := false }
def InodesCutsSaid : Prop := inodesCutsRow.holds Try.pinned (OpenSpec.ofChange inodesCutsSpec)

/-- ITS FALSE NEIGHBOUR: 'it returns false'. Refute it at one input. -/
def inodesCutsWrong : ChangeSpec := { name := "inodesCuts", fn := fun _ => fun
  | [d1, d2] => { results := [.lit (.bool false)], args := [d1, d2] }
  | _ => none }
def InodesCutsWrongFalsely : Prop := inodesCutsRow.holds Try.pinned (OpenSpec.ofChange inodesCutsWrong)

/-- 'conchlaw12.InodesLeaks': WHATEVER THE INPUT: true; the input reads as it did. -/
def inodesLeaksSpec : ChangeSpec := { name := "inodesLeaks", fn := fun _ => fun
  | [d] => { results := [.lit (.bool true)], args := [d] }
  | _ => none }
def inodesLeaksRow : OpenClaim := { program := "ytmkiaoddkodngaa", sum := "7642b912797831cfa76361f13eab7e62ad1a7757bc3c6e9eab016d22bb55d90c", func := "conch/conchlaw12.InodesLeaks", spec := "inodesLeaks", unfollowed := true, recurses := true, apart := false }
def InodesLeaksSaid : Prop := inodesLeaksRow.holds Try.pinned (OpenSpec.ofChange inodesLeaksSpec)

/-- ITS FALSE NEIGHBOUR: 'it returns false'. Refute it at one input. -/
def inodesLeaksWrong : ChangeSpec := { name := "inodesLeaks", fn := fun _ => fun
  | [d] => { results := [.lit (.bool false)], args := [d] }
  | _ => none }
def InodesLeaksWrongFalsely : Prop := inodesLeaksRow.holds Try.pinned (OpenSpec.ofChange inodesLeaksWrong)

/-- 'conchlaw12.InodesPlays': WHATEVER THE INPUT: true; the input reads as it did. -/
def inodesPlaysSpec : ChangeSpec := { name := "inodesPlays", fn := fun _ => fun
  | [d1, d2] => { results := [.lit (.bool true)], args := [d1, d2] }
  | _ => none }
def inodesPlaysRow : OpenClaim := { program := "ytmkiaoddkodngaa", sum := "7642b912797831cfa76361f13eab7e62ad1a7757bc3c6e9eab016d22bb55d90c", func := "conch/conchlaw12.InodesPlays", spec := "inodesPlays", inPlace := ["maps.clone"], unfollowed := true, recurses := true, apart := false }
def InodesPlaysSaid : Prop := inodesPlaysRow.holds Try.pinned (OpenSpec.ofChange inodesPlaysSpec)

/-- ITS FALSE NEIGHBOUR: 'it returns false'. Refute it at one input. -/
def inodesPlaysWrong : ChangeSpec := { name := "inodesPlays", fn := fun _ => fun
  | [d1, d2] => { results := [.lit (.bool false)], args := [d1, d2] }
  | _ => none }
def InodesPlaysWrongFalsely : Prop := inodesPlaysRow.holds Try.pinned (OpenSpec.ofChange inodesPlaysWrong)

/-- 'conchlaw12.InodesNil': WHATEVER THE INPUT: true; the input reads as it did. -/
def inodesNilSpec : ChangeSpec := { name := "inodesNil", fn := fun _ => fun
  | [d1, d2] => { results := [.lit (.bool true)], args := [d1, d2] }
  | _ => none }
def inodesNilRow : OpenClaim := { program := "ytmkiaoddkodngaa", sum := "7642b912797831cfa76361f13eab7e62ad1a7757bc3c6e9eab016d22bb55d90c", func := "conch/conchlaw12.InodesNil", spec := "inodesNil", inPlace := ["maps.clone"], unfollowed := true, recurses := true, apart := false }
def InodesNilSaid : Prop := inodesNilRow.holds Try.pinned (OpenSpec.ofChange inodesNilSpec)

/-- ITS FALSE NEIGHBOUR: 'it returns false'. Refute it at one input. -/
def inodesNilWrong : ChangeSpec := { name := "inodesNil", fn := fun _ => fun
  | [d1, d2] => { results := [.lit (.bool false)], args := [d1, d2] }
  | _ => none }
def InodesNilWrongFalsely : Prop := inodesNilRow.holds Try.pinned (OpenSpec.ofChange inodesNilWrong)

/- THE SECOND FORM. 'bulk': how many values and letters a reading holds, each counted each time it is reached (what is shared counts as often as it is met; a slice's spare places count too). A statement '..UptoSaid' is the law's where the arguments, and the package variables that the reading takes, are together of bulk at most 1048576: NARROWER than '..Said'. Prove '..Said' where nothing that the law and all that it calls make is longer than what came in: it says more and counts as full. Else prove '..UptoSaid'. A law counts once. -/
mutual
def uptoBulk {H : Type} : DataW H → Nat
  | .lit (.string bytes) => bytes.length + 1
  | .lit _ => 1
  | .nil => 1
  | .ptr d => uptoBulk d + 1
  | .slice elems spare => uptoBulkAll elems + uptoBulkAll spare + 1
  | .agg parts => uptoBulkAll parts + 1
  | .iface _ d => uptoBulk d + 1
  | .map entries => uptoBulkEntries entries + 1
  | .held _ => 1
def uptoBulkAll {H : Type} : List (DataW H) → Nat
  | [] => 0
  | d :: r => uptoBulk d + uptoBulkAll r
def uptoBulkEntries {H : Type} : List (Lit × DataW H) → Nat
  | [] => 0
  | x :: r => uptoBulkEntry x + uptoBulkEntries r
def uptoBulkEntry {H : Type} : Lit × DataW H → Nat
  | (.string bytes, d) => bytes.length + uptoBulk d + 1
  | (_, d) => uptoBulk d + 1
 end
def uptoSmall : (H : Type) → List (DataW H) → Bool := fun _ ds => decide (uptoBulkAll ds ≤ 1048576)
def OpenSpec.upto (s : _root_.Go.ChangeSpec) : _root_.Go.OpenSpec := { _root_.Go.OpenSpec.ofChange s with cond := some uptoSmall }

/-- 'conchlaw12.InodesKeeps', WHERE WHAT IT READS IS OF BULK AT MOST 1048576: true; the input reads as it did. -/
def inodesKeepsUptoRow : OpenClaim := { program := "ytmkiaoddkodngaa", sum := "7642b912797831cfa76361f13eab7e62ad1a7757bc3c6e9eab016d22bb55d90c", func := "conch/conchlaw12.InodesKeeps", spec := "inodesKeeps", unfollowed := true, recurses := true, apart := false, narrowed := true }
def InodesKeepsUptoSaid : Prop := inodesKeepsUptoRow.holds Try.pinned (OpenSpec.upto inodesKeepsSpec)

/-- 'conchlaw12.InodesFull', WHERE WHAT IT READS IS OF BULK AT MOST 1048576: true; the input reads as it did. -/
def inodesFullUptoRow : OpenClaim := { program := "ytmkiaoddkodngaa", sum := "7642b912797831cfa76361f13eab7e62ad1a7757bc3c6e9eab016d22bb55d90c", func := "conch/conchlaw12.InodesFull", spec := "inodesFull", unfollowed := true, recurses := true, apart := false, narrowed := true }
def InodesFullUptoSaid : Prop := inodesFullUptoRow.holds Try.pinned (OpenSpec.upto inodesFullSpec)

/-- 'conchlaw12.InodesCuts', WHERE WHAT IT READS IS OF BULK AT MOST 1048576: true; the input reads as it did. -/
def inodesCutsUptoRow : OpenClaim := { program := "ytmkiaoddkodngaa", sum := "7642b912797831cfa76361f13eab7e62ad1a7757bc3c6e9eab016d22bb55d90c", func := "conch/conchlaw12.InodesCuts", spec := "inodesCuts", unfollowed := true, recurses := true, apart := false, narrowed := true }
def InodesCutsUptoSaid : Prop := inodesCutsUptoRow.holds Try.pinned (OpenSpec.upto inodesCutsSpec)

/-- 'conchlaw12.InodesLeaks', WHERE WHAT IT READS IS OF BULK AT MOST 1048576: true; the input reads as it did. -/
def inodesLeaksUptoRow : OpenClaim := { program := "ytmkiaoddkodngaa", sum := "7642b912797831cfa76361f13eab7e62ad1a7757bc3c6e9eab016d22bb55d90c", func := "conch/conchlaw12.InodesLeaks", spec := "inodesLeaks", unfollowed := true, recurses := true, apart := false, narrowed := true }
def InodesLeaksUptoSaid : Prop := inodesLeaksUptoRow.holds Try.pinned (OpenSpec.upto inodesLeaksSpec)

/-- 'conchlaw12.InodesPlays', WHERE WHAT IT READS IS OF BULK AT MOST 1048576: true; the input reads as it did. -/
def inodesPlaysUptoRow : OpenClaim := { program := "ytmkiaoddkodngaa", sum := "7642b912797831cfa76361f13eab7e62ad1a7757bc3c6e9eab016d22bb55d90c", func := "conch/conchlaw12.InodesPlays", spec := "inodesPlays", inPlace := ["maps.clone"], unfollowed := true, recurses := true, apart := false, narrowed := true }
def InodesPlaysUptoSaid : Prop := inodesPlaysUptoRow.holds Try.pinned (OpenSpec.upto inodesPlaysSpec)

/-- 'conchlaw12.InodesNil', WHERE WHAT IT READS IS OF BULK AT MOST 1048576: true; the input reads as it did. -/
def inodesNilUptoRow : OpenClaim := { program := "ytmkiaoddkodngaa", sum := "7642b912797831cfa76361f13eab7e62ad1a7757bc3c6e9eab016d22bb55d90c", func := "conch/conchlaw12.InodesNil", spec := "inodesNil", inPlace := ["maps.clone"], unfollowed := true, recurses := true, apart := false, narrowed := true }
def InodesNilUptoSaid : Prop := inodesNilUptoRow.holds Try.pinned (OpenSpec.upto inodesNilSpec)

end Rows
end Go.Proofs.Ytmkiaoddkodngaa
