/-
  No cell of these rows narrows 'for every input' (looked for: loops, veiled, ifaces, maps, wideKeys, modest, calm, conditions, laid).
  DERIVED. THE GIVEN ROWS OF THIS SEAT. 5 by the template 'for every input the law returns true; each argument reads behind the call as it read before'; 0 by the template 'total and deterministic' (their statements: YtfiknjogkpbgdaaTotals.lean).
  GIVEN WITH THE SEED: the statements are not yours to turn. If you find one false, say at which input.
  Laid BY PROGRAM, IN A SANDBOX (cutbox-rows.mjs): the forced cells as the released guide's own fill.sh prints them over the translation b0418651e4e252f6… (all of the seat's roots in one cut). By AI agents, Wed Nov 11 2026. No macro, syntax, notation, axiom, sorry.
-/
import Derived.Test.YtfiknjogkpbgdaaChecked
import GoSem.Claim
import GoSem.ClaimJoined
import GoSem.ClaimMapViews
import Derived.JoinedTies
import Derived.KernelRfl
namespace Go.Proofs.Ytfiknjogkpbgdaa
/- THE CELL 'sum', in the pinned program and in every row, IS THE sha256 OF THE DUMP (.gsa) THAT YtfiknjogkpbgdaaProg.lean LOADS. Nothing in Lean hashes anything: it is a label: what it is worth is what the hold of that sum in a sandbox is worth. -/
noncomputable def Try.pinned : Pinned := { name := "ytfiknjogkpbgdaa", sum := "b0418651e4e252f60a723e792a44e168e5e3d346d5944afdb6528296c135d1de", checked := Try.checked }
namespace Rows
def none {H : Type} : Left H := { results := [], args := [] }

/-- 'conchlaw11.BlocksOnce': WHATEVER THE INPUT: true; the input reads as it did. -/
def blocksOnceSpec : ChangeSpec := { name := "blocksOnce", fn := fun _ => fun
  | [d1, d2] => { results := [.lit (.bool true)], args := [d1, d2] }
  | _ => none }
def blocksOnceRow : OpenClaim := { program := "ytfiknjogkpbgdaa", sum := "b0418651e4e252f60a723e792a44e168e5e3d346d5944afdb6528296c135d1de", func := "conch/conchlaw11.BlocksOnce", spec := "blocksOnce", unfollowed := true, recurses := true, apart := false }
def BlocksOnceSaid : Prop := blocksOnceRow.holds Try.pinned (OpenSpec.ofChange blocksOnceSpec)

/-- ITS FALSE NEIGHBOUR: 'it returns false'. Refute it at one input. -/
def blocksOnceWrong : ChangeSpec := { name := "blocksOnce", fn := fun _ => fun
  | [d1, d2] => { results := [.lit (.bool false)], args := [d1, d2] }
  | _ => none }
def BlocksOnceWrongFalsely : Prop := blocksOnceRow.holds Try.pinned (OpenSpec.ofChange blocksOnceWrong)

/-- 'conchlaw11.BlocksFresh': WHATEVER THE INPUT: true; the input reads as it did. -/
def blocksFreshSpec : ChangeSpec := { name := "blocksFresh", fn := fun _ => fun
  | [d] => { results := [.lit (.bool true)], args := [d] }
  | _ => none }
def blocksFreshRow : OpenClaim := { program := "ytfiknjogkpbgdaa", sum := "b0418651e4e252f60a723e792a44e168e5e3d346d5944afdb6528296c135d1de", func := "conch/conchlaw11.BlocksFresh", spec := "blocksFresh", unfollowed := true, recurses := true, apart := false }
def BlocksFreshSaid : Prop := blocksFreshRow.holds Try.pinned (OpenSpec.ofChange blocksFreshSpec)

/-- ITS FALSE NEIGHBOUR: 'it returns false'. Refute it at one input. -/
def blocksFreshWrong : ChangeSpec := { name := "blocksFresh", fn := fun _ => fun
  | [d] => { results := [.lit (.bool false)], args := [d] }
  | _ => none }
def BlocksFreshWrongFalsely : Prop := blocksFreshRow.holds Try.pinned (OpenSpec.ofChange blocksFreshWrong)

/-- 'conchlaw11.BlocksKeeps': WHATEVER THE INPUT: true; the input reads as it did. -/
def blocksKeepsSpec : ChangeSpec := { name := "blocksKeeps", fn := fun _ => fun
  | [d1, d2, d3] => { results := [.lit (.bool true)], args := [d1, d2, d3] }
  | _ => none }
def blocksKeepsRow : OpenClaim := { program := "ytfiknjogkpbgdaa", sum := "b0418651e4e252f60a723e792a44e168e5e3d346d5944afdb6528296c135d1de", func := "conch/conchlaw11.BlocksKeeps", spec := "blocksKeeps", unfollowed := true, recurses := true, apart := false }
def BlocksKeepsSaid : Prop := blocksKeepsRow.holds Try.pinned (OpenSpec.ofChange blocksKeepsSpec)

/-- ITS FALSE NEIGHBOUR: 'it returns false'. Refute it at one input. -/
def blocksKeepsWrong : ChangeSpec := { name := "blocksKeeps", fn := fun _ => fun
  | [d1, d2, d3] => { results := [.lit (.bool false)], args := [d1, d2, d3] }
  | _ => none }
def BlocksKeepsWrongFalsely : Prop := blocksKeepsRow.holds Try.pinned (OpenSpec.ofChange blocksKeepsWrong)

/-- 'conchlaw11.BlocksPlays': WHATEVER THE INPUT: true; the input reads as it did. -/
def blocksPlaysSpec : ChangeSpec := { name := "blocksPlays", fn := fun _ => fun
  | [d1, d2] => { results := [.lit (.bool true)], args := [d1, d2] }
  | _ => none }
def blocksPlaysRow : OpenClaim := { program := "ytfiknjogkpbgdaa", sum := "b0418651e4e252f60a723e792a44e168e5e3d346d5944afdb6528296c135d1de", func := "conch/conchlaw11.BlocksPlays", spec := "blocksPlays", unfollowed := true, recurses := true, apart := false }
def BlocksPlaysSaid : Prop := blocksPlaysRow.holds Try.pinned (OpenSpec.ofChange blocksPlaysSpec)

/-- ITS FALSE NEIGHBOUR: 'it returns false'. Refute it at one input. -/
def blocksPlaysWrong : ChangeSpec := { name := "blocksPlays", fn := fun _ => fun
  | [d1, d2] => { results := [.lit (.bool false)], args := [d1, d2] }
  | _ => none }
def BlocksPlaysWrongFalsely : Prop := blocksPlaysRow.holds Try.pinned (OpenSpec.ofChange blocksPlaysWrong)

/-- 'conchlaw11.BlocksNil': WHATEVER THE INPUT: true; the input reads as it did. -/
def blocksNilSpec : ChangeSpec := { name := "blocksNil", fn := fun _ => fun
  | [d1, d2] => { results := [.lit (.bool true)], args := [d1, d2] }
  | _ => none }
def blocksNilRow : OpenClaim := { program := "ytfiknjogkpbgdaa", sum := "b0418651e4e252f60a723e792a44e168e5e3d346d5944afdb6528296c135d1de", func := "conch/conchlaw11.BlocksNil", spec := "blocksNil", unfollowed := true, recurses := true, apart := false }
def BlocksNilSaid : Prop := blocksNilRow.holds Try.pinned (OpenSpec.ofChange blocksNilSpec)

/-- ITS FALSE NEIGHBOUR: 'it returns false'. Refute it at one input. -/
def blocksNilWrong : ChangeSpec := { name := "blocksNil", fn := fun _ => fun
  | [d1, d2] => { results := [.lit (.bool false)], args := [d1, d2] }
  | _ => none }
def BlocksNilWrongFalsely : Prop := blocksNilRow.holds Try.pinned (OpenSpec.ofChange blocksNilWrong)

/- THE SECOND FORM. 'bulk': how many values and letters a reading holds, each counted each time it is reached (what is shared counts as often as it is met; a slice's spare places count too). A statement '..UptoSaid' is the law's where the arguments, and the package variables that the reading takes, are together of bulk at most 1048576: NARROWER than '..Said'. Prove '..Said' where nothing that the law and all that it calls make is longer than what came in: it says more and counts as full. Else prove '..UptoSaid'. A law counts once. -/
mutual
def uptoBulk {H : Type} : DataW H → Nat
  | .lit (.string bytes) => bytes.length + 1
  | .lit _ => 1
  | .nil => 1
  | .ptr d => uptoBulk d + 1
  | .slice elems spare => uptoBulkAll elems + uptoBulkAll spare + 1
  | .agg parts => uptoBulkAll parts + 1
  | .iface _ d => uptoBulk d + 1
  | .map entries => uptoBulkEntries entries + 1
  | .held _ => 1
def uptoBulkAll {H : Type} : List (DataW H) → Nat
  | [] => 0
  | d :: r => uptoBulk d + uptoBulkAll r
def uptoBulkEntries {H : Type} : List (Lit × DataW H) → Nat
  | [] => 0
  | x :: r => uptoBulkEntry x + uptoBulkEntries r
def uptoBulkEntry {H : Type} : Lit × DataW H → Nat
  | (.string bytes, d) => bytes.length + uptoBulk d + 1
  | (_, d) => uptoBulk d + 1
 end
def uptoSmall : (H : Type) → List (DataW H) → Bool := fun _ ds => decide (uptoBulkAll ds ≤ 1048576)
def OpenSpec.upto (s : _root_.Go.ChangeSpec) : _root_.Go.OpenSpec := { _root_.Go.OpenSpec.ofChange s with cond := some uptoSmall }

/-- 'conchlaw11.BlocksOnce', WHERE WHAT IT READS IS OF BULK AT MOST 1048576: true; the input reads as it did. -/
def blocksOnceUptoRow : OpenClaim := { program := "ytfiknjogkpbgdaa", sum := "b0418651e4e252f60a723e792a44e168e5e3d346d5944afdb6528296c135d1de", func := "conch/conchlaw11.BlocksOnce", spec := "blocksOnce", unfollowed := true, recurses := true, apart := false, narrowed := true }
def BlocksOnceUptoSaid : Prop := blocksOnceUptoRow.holds Try.pinned (OpenSpec.upto blocksOnceSpec)

/-- 'conchlaw11.BlocksFresh', WHERE WHAT IT READS IS OF BULK AT MOST 1048576: true; the input reads as it did. -/
def blocksFreshUptoRow : OpenClaim := { program := "ytfiknjogkpbgdaa", sum := "b0418651e4e252f60a723e792a44e168e5e3d346d5944afdb6528296c135d1de", func := "conch/conchlaw11.BlocksFresh", spec := "blocksFresh", unfollowed := true, recurses := true, apart := false, narrowed := true }
def BlocksFreshUptoSaid : Prop := blocksFreshUptoRow.holds Try.pinned (OpenSpec.upto blocksFreshSpec)

/-- 'conchlaw11.BlocksKeeps', WHERE WHAT IT READS IS OF BULK AT MOST 1048576: true; the input reads as it did. -/
def blocksKeepsUptoRow : OpenClaim := { program := "ytfiknjogkpbgdaa", sum := "b0418651e4e252f60a723e792a44e168e5e3d346d5944afdb6528296c135d1de", func := "conch/conchlaw11.BlocksKeeps", spec := "blocksKeeps", unfollowed := true, recurses := true, apart := false, narrowed := true }
def BlocksKeepsUptoSaid : Prop := blocksKeepsUptoRow.holds Try.pinned (OpenSpec.upto blocksKeepsSpec)

/-- 'conchlaw11.BlocksPlays', WHERE WHAT IT READS IS OF BULK AT MOST 1048576: true; the input reads as it did. -/
def blocksPlaysUptoRow : OpenClaim := { program := "ytfiknjogkpbgdaa", sum := "b0418651e4e252f60a723e792a44e168e5e3d346d5944afdb6528296c135d1de", func := "conch/conchlaw11.BlocksPlays", spec := "blocksPlays", unfollowed := true, recurses := true, apart := false, narrowed := true }
def BlocksPlaysUptoSaid : Prop := blocksPlaysUptoRow.holds Try.pinned (OpenSpec.upto blocksPlaysSpec)

/-- 'conchlaw11.BlocksNil', WHERE WHAT IT READS IS OF BULK AT MOST 1048576: true; the input reads as it did. -/
def blocksNilUptoRow : OpenClaim := { program := "ytfiknjogkpbgdaa", sum := "b0418651e4e252f60a723e792a44e168e5e3d346d5944afdb6528296c135d1de", func := "conch/conchlaw11.BlocksNil", spec := "blocksNil", unfollowed := true, recurses := true, apart := false, narrowed := true }
def BlocksNilUptoSaid : Prop := blocksNilUptoRow.holds Try.pinned (OpenSpec.upto blocksNilSpec)

end Rows
end Go.Proofs.Ytfiknjogkpbgdaa
