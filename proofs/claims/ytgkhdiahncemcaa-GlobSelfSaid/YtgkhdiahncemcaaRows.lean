/-
  No cell of these rows narrows 'for every input' (looked for: loops, veiled, ifaces, maps, wideKeys, modest, calm, conditions, laid).
  DERIVED. THE GIVEN ROWS OF THIS SEAT. 6 by the template 'for every input the law returns true; each argument reads behind the call as it read before'; 0 by the template 'total and deterministic' (their statements: YtgkhdiahncemcaaTotals.lean).
  GIVEN WITH THE SEED: the statements are not yours to turn. If you find one false, say at which input.
  Laid BY PROGRAM, IN A SANDBOX (cutbox-rows.mjs): the forced cells as the released guide's own fill.sh prints them over the translation 590d46f71ce6825a… (all of the seat's roots in one cut). By AI agents, Wed Nov 11 2026. No macro, syntax, notation, axiom, sorry.
-/
import Derived.Test.YtgkhdiahncemcaaChecked
import GoSem.Claim
import GoSem.ClaimJoined
import GoSem.ClaimMapViews
import Derived.JoinedTies
import Derived.KernelRfl
namespace Go.Proofs.Ytgkhdiahncemcaa
/- THE CELL 'sum', in the pinned program and in every row, IS THE sha256 OF THE DUMP (.gsa) THAT YtgkhdiahncemcaaProg.lean LOADS. Nothing in Lean hashes anything: it is a label: what it is worth is what the hold of that sum in a sandbox is worth. -/
noncomputable def Try.pinned : Pinned := { name := "ytgkhdiahncemcaa", sum := "590d46f71ce6825af1c47d43321d8b480a8edee876c0638c3c9970ef62a292d4", checked := Try.checked }
namespace Rows
def none {H : Type} : Left H := { results := [], args := [] }

/-- 'conchlaw02.GlobParses': WHATEVER THE INPUT: true; the input reads as it did. -/
def globParsesSpec : ChangeSpec := { name := "globParses", fn := fun _ => fun
  | [d1, d2] => { results := [.lit (.bool true)], args := [d1, d2] }
  | _ => none }
def globParsesRow : OpenClaim := { program := "ytgkhdiahncemcaa", sum := "590d46f71ce6825af1c47d43321d8b480a8edee876c0638c3c9970ef62a292d4", func := "conch/conchlaw02.GlobParses", spec := "globParses", unfollowed := true, recurses := true, apart := false }
def GlobParsesSaid : Prop := globParsesRow.holds Try.pinned (OpenSpec.ofChange globParsesSpec)

/-- ITS FALSE NEIGHBOUR: 'it returns false'. Refute it at one input. -/
def globParsesWrong : ChangeSpec := { name := "globParses", fn := fun _ => fun
  | [d1, d2] => { results := [.lit (.bool false)], args := [d1, d2] }
  | _ => none }
def GlobParsesWrongFalsely : Prop := globParsesRow.holds Try.pinned (OpenSpec.ofChange globParsesWrong)

/-- 'conchlaw02.GlobMatches': WHATEVER THE INPUT: true; the input reads as it did. -/
def globMatchesSpec : ChangeSpec := { name := "globMatches", fn := fun _ => fun
  | [d1, d2] => { results := [.lit (.bool true)], args := [d1, d2] }
  | _ => none }
def globMatchesRow : OpenClaim := { program := "ytgkhdiahncemcaa", sum := "590d46f71ce6825af1c47d43321d8b480a8edee876c0638c3c9970ef62a292d4", func := "conch/conchlaw02.GlobMatches", spec := "globMatches", unfollowed := true, recurses := true, apart := false }
def GlobMatchesSaid : Prop := globMatchesRow.holds Try.pinned (OpenSpec.ofChange globMatchesSpec)

/-- ITS FALSE NEIGHBOUR: 'it returns false'. Refute it at one input. -/
def globMatchesWrong : ChangeSpec := { name := "globMatches", fn := fun _ => fun
  | [d1, d2] => { results := [.lit (.bool false)], args := [d1, d2] }
  | _ => none }
def GlobMatchesWrongFalsely : Prop := globMatchesRow.holds Try.pinned (OpenSpec.ofChange globMatchesWrong)

/-- 'conchlaw02.GlobEnds': WHATEVER THE INPUT: true; the input reads as it did. -/
def globEndsSpec : ChangeSpec := { name := "globEnds", fn := fun _ => fun
  | [d1, d2, d3] => { results := [.lit (.bool true)], args := [d1, d2, d3] }
  | _ => none }
def globEndsRow : OpenClaim := { program := "ytgkhdiahncemcaa", sum := "590d46f71ce6825af1c47d43321d8b480a8edee876c0638c3c9970ef62a292d4", func := "conch/conchlaw02.GlobEnds", spec := "globEnds", unfollowed := true, recurses := true, apart := false }
def GlobEndsSaid : Prop := globEndsRow.holds Try.pinned (OpenSpec.ofChange globEndsSpec)

/-- ITS FALSE NEIGHBOUR: 'it returns false'. Refute it at one input. -/
def globEndsWrong : ChangeSpec := { name := "globEnds", fn := fun _ => fun
  | [d1, d2, d3] => { results := [.lit (.bool false)], args := [d1, d2, d3] }
  | _ => none }
def GlobEndsWrongFalsely : Prop := globEndsRow.holds Try.pinned (OpenSpec.ofChange globEndsWrong)

/-- 'conchlaw02.GlobSelf': WHATEVER THE INPUT: true; the input reads as it did. -/
def globSelfSpec : ChangeSpec := { name := "globSelf", fn := fun _ => fun
  | [d1, d2] => { results := [.lit (.bool true)], args := [d1, d2] }
  | _ => none }
def globSelfRow : OpenClaim := { program := "ytgkhdiahncemcaa", sum := "590d46f71ce6825af1c47d43321d8b480a8edee876c0638c3c9970ef62a292d4", func := "conch/conchlaw02.GlobSelf", spec := "globSelf", unfollowed := true, recurses := true, apart := false }
def GlobSelfSaid : Prop := globSelfRow.holds Try.pinned (OpenSpec.ofChange globSelfSpec)

/-- ITS FALSE NEIGHBOUR: 'it returns false'. Refute it at one input. -/
def globSelfWrong : ChangeSpec := { name := "globSelf", fn := fun _ => fun
  | [d1, d2] => { results := [.lit (.bool false)], args := [d1, d2] }
  | _ => none }
def GlobSelfWrongFalsely : Prop := globSelfRow.holds Try.pinned (OpenSpec.ofChange globSelfWrong)

/-- 'conchlaw02.GlobJoins': WHATEVER THE INPUT: true; the input reads as it did. -/
def globJoinsSpec : ChangeSpec := { name := "globJoins", fn := fun _ => fun
  | [d1, d2, d3] => { results := [.lit (.bool true)], args := [d1, d2, d3] }
  | _ => none }
def globJoinsRow : OpenClaim := { program := "ytgkhdiahncemcaa", sum := "590d46f71ce6825af1c47d43321d8b480a8edee876c0638c3c9970ef62a292d4", func := "conch/conchlaw02.GlobJoins", spec := "globJoins", unfollowed := true, recurses := true, apart := false }
def GlobJoinsSaid : Prop := globJoinsRow.holds Try.pinned (OpenSpec.ofChange globJoinsSpec)

/-- ITS FALSE NEIGHBOUR: 'it returns false'. Refute it at one input. -/
def globJoinsWrong : ChangeSpec := { name := "globJoins", fn := fun _ => fun
  | [d1, d2, d3] => { results := [.lit (.bool false)], args := [d1, d2, d3] }
  | _ => none }
def GlobJoinsWrongFalsely : Prop := globJoinsRow.holds Try.pinned (OpenSpec.ofChange globJoinsWrong)

/-- 'conchlaw02.GlobCuts': WHATEVER THE INPUT: true; the input reads as it did. -/
def globCutsSpec : ChangeSpec := { name := "globCuts", fn := fun _ => fun
  | [d1, d2] => { results := [.lit (.bool true)], args := [d1, d2] }
  | _ => none }
def globCutsRow : OpenClaim := { program := "ytgkhdiahncemcaa", sum := "590d46f71ce6825af1c47d43321d8b480a8edee876c0638c3c9970ef62a292d4", func := "conch/conchlaw02.GlobCuts", spec := "globCuts", unfollowed := true, recurses := true, apart := false }
def GlobCutsSaid : Prop := globCutsRow.holds Try.pinned (OpenSpec.ofChange globCutsSpec)

/-- ITS FALSE NEIGHBOUR: 'it returns false'. Refute it at one input. -/
def globCutsWrong : ChangeSpec := { name := "globCuts", fn := fun _ => fun
  | [d1, d2] => { results := [.lit (.bool false)], args := [d1, d2] }
  | _ => none }
def GlobCutsWrongFalsely : Prop := globCutsRow.holds Try.pinned (OpenSpec.ofChange globCutsWrong)

/- THE SECOND FORM. 'bulk': how many values and letters a reading holds, each counted each time it is reached (what is shared counts as often as it is met; a slice's spare places count too). A statement '..UptoSaid' is the law's where the arguments, and the package variables that the reading takes, are together of bulk at most 1048576: NARROWER than '..Said'. Prove '..Said' where nothing that the law and all that it calls make is longer than what came in: it says more and counts as full. Else prove '..UptoSaid'. A law counts once. -/
mutual
def uptoBulk {H : Type} : DataW H → Nat
  | .lit (.string bytes) => bytes.length + 1
  | .lit _ => 1
  | .nil => 1
  | .ptr d => uptoBulk d + 1
  | .slice elems spare => uptoBulkAll elems + uptoBulkAll spare + 1
  | .agg parts => uptoBulkAll parts + 1
  | .iface _ d => uptoBulk d + 1
  | .map entries => uptoBulkEntries entries + 1
  | .held _ => 1
def uptoBulkAll {H : Type} : List (DataW H) → Nat
  | [] => 0
  | d :: r => uptoBulk d + uptoBulkAll r
def uptoBulkEntries {H : Type} : List (Lit × DataW H) → Nat
  | [] => 0
  | x :: r => uptoBulkEntry x + uptoBulkEntries r
def uptoBulkEntry {H : Type} : Lit × DataW H → Nat
  | (.string bytes, d) => bytes.length + uptoBulk d + 1
  | (_, d) => uptoBulk d + 1
 end
def uptoSmall : (H : Type) → List (DataW H) → Bool := fun _ ds => decide (uptoBulkAll ds ≤ 1048576)
def OpenSpec.upto (s : _root_.Go.ChangeSpec) : _root_.Go.OpenSpec := { _root_.Go.OpenSpec.ofChange s with cond := some uptoSmall }

/-- 'conchlaw02.GlobParses', WHERE WHAT IT READS IS OF BULK AT MOST 1048576: true; the input reads as it did. -/
def globParsesUptoRow : OpenClaim := { program := "ytgkhdiahncemcaa", sum := "590d46f71ce6825af1c47d43321d8b480a8edee876c0638c3c9970ef62a292d4", func := "conch/conchlaw02.GlobParses", spec := "globParses", unfollowed := true, recurses := true, apart := false, narrowed := true }
def GlobParsesUptoSaid : Prop := globParsesUptoRow.holds Try.pinned (OpenSpec.upto globParsesSpec)

/-- 'conchlaw02.GlobMatches', WHERE WHAT IT READS IS OF BULK AT MOST 1048576: true; the input reads as it did. -/
def globMatchesUptoRow : OpenClaim := { program := "ytgkhdiahncemcaa", sum := "590d46f71ce6825af1c47d43321d8b480a8edee876c0638c3c9970ef62a292d4", func := "conch/conchlaw02.GlobMatches", spec := "globMatches", unfollowed := true, recurses := true, apart := false, narrowed := true }
def GlobMatchesUptoSaid : Prop := globMatchesUptoRow.holds Try.pinned (OpenSpec.upto globMatchesSpec)

/-- 'conchlaw02.GlobEnds', WHERE WHAT IT READS IS OF BULK AT MOST 1048576: true; the input reads as it did. -/
def globEndsUptoRow : OpenClaim := { program := "ytgkhdiahncemcaa", sum := "590d46f71ce6825af1c47d43321d8b480a8edee876c0638c3c9970ef62a292d4", func := "conch/conchlaw02.GlobEnds", spec := "globEnds", unfollowed := true, recurses := true, apart := false, narrowed := true }
def GlobEndsUptoSaid : Prop := globEndsUptoRow.holds Try.pinned (OpenSpec.upto globEndsSpec)

/-- 'conchlaw02.GlobSelf', WHERE WHAT IT READS IS OF BULK AT MOST 1048576: true; the input reads as it did. -/
def globSelfUptoRow : OpenClaim := { program := "ytgkhdiahncemcaa", sum := "590d46f71ce6825af1c47d43321d8b480a8edee876c0638c3c9970ef62a292d4", func := "conch/conchlaw02.GlobSelf", spec := "globSelf", unfollowed := true, recurses := true, apart := false, narrowed := true }
def GlobSelfUptoSaid : Prop := globSelfUptoRow.holds Try.pinned (OpenSpec.upto globSelfSpec)

/-- 'conchlaw02.GlobJoins', WHERE WHAT IT READS IS OF BULK AT MOST 1048576: true; the input reads as it did. -/
def globJoinsUptoRow : OpenClaim := { program := "ytgkhdiahncemcaa", sum := "590d46f71ce6825af1c47d43321d8b480a8edee876c0638c3c9970ef62a292d4", func := "conch/conchlaw02.GlobJoins", spec := "globJoins", unfollowed := true, recurses := true, apart := false, narrowed := true }
def GlobJoinsUptoSaid : Prop := globJoinsUptoRow.holds Try.pinned (OpenSpec.upto globJoinsSpec)

/-- 'conchlaw02.GlobCuts', WHERE WHAT IT READS IS OF BULK AT MOST 1048576: true; the input reads as it did. -/
def globCutsUptoRow : OpenClaim := { program := "ytgkhdiahncemcaa", sum := "590d46f71ce6825af1c47d43321d8b480a8edee876c0638c3c9970ef62a292d4", func := "conch/conchlaw02.GlobCuts", spec := "globCuts", unfollowed := true, recurses := true, apart := false, narrowed := true }
def GlobCutsUptoSaid : Prop := globCutsUptoRow.holds Try.pinned (OpenSpec.upto globCutsSpec)

end Rows
end Go.Proofs.Ytgkhdiahncemcaa
