/-
  No cell of these rows narrows 'for every input' (looked for: loops, veiled, ifaces, maps, wideKeys, modest, calm, conditions, laid).
  DERIVED. THE GIVEN ROWS OF THIS SEAT. 4 by the template 'for every input the law returns true; each argument reads behind the call as it read before'; 0 by the template 'total and deterministic' (their statements: YtkponloccimdlaaTotals.lean).
  GIVEN WITH THE SEED: the statements are not yours to turn. If you find one false, say at which input.
  Laid BY PROGRAM, IN A SANDBOX (cutbox-rows.mjs): the forced cells as the released guide's own fill.sh prints them over the translation cf70c4e8efdddd0d… (all of the seat's roots in one cut). By AI agents, Wed Nov 11 2026. No macro, syntax, notation, axiom, sorry.
-/
import Derived.Test.YtkponloccimdlaaChecked
import GoSem.Claim
import GoSem.ClaimJoined
import GoSem.ClaimMapViews
import Derived.JoinedTies
import Derived.KernelRfl
namespace Go.Proofs.Ytkponloccimdlaa
/- THE CELL 'sum', in the pinned program and in every row, IS THE sha256 OF THE DUMP (.gsa) THAT YtkponloccimdlaaProg.lean LOADS. Nothing in Lean hashes anything: it is a label: what it is worth is what the hold of that sum in a sandbox is worth. -/
noncomputable def Try.pinned : Pinned := { name := "ytkponloccimdlaa", sum := "cf70c4e8efdddd0d915c8acbb66a2c10e5dc8f75992bc755f1a122746caba04a", checked := Try.checked }
namespace Rows
def none {H : Type} : Left H := { results := [], args := [] }

/-- 'conchlaw17.ProcsOnce': WHATEVER THE INPUT: true; the input reads as it did. -/
def procsOnceSpec : ChangeSpec := { name := "procsOnce", fn := fun _ => fun
  | [d] => { results := [.lit (.bool true)], args := [d] }
  | _ => none }
def procsOnceRow : OpenClaim := { program := "ytkponloccimdlaa", sum := "cf70c4e8efdddd0d915c8acbb66a2c10e5dc8f75992bc755f1a122746caba04a", func := "conch/conchlaw17.ProcsOnce", spec := "procsOnce", apart := false }
def ProcsOnceSaid : Prop := procsOnceRow.holds Try.pinned (OpenSpec.ofChange procsOnceSpec)

/-- ITS FALSE NEIGHBOUR: 'it returns false'. Refute it at one input. -/
def procsOnceWrong : ChangeSpec := { name := "procsOnce", fn := fun _ => fun
  | [d] => { results := [.lit (.bool false)], args := [d] }
  | _ => none }
def ProcsOnceWrongFalsely : Prop := procsOnceRow.holds Try.pinned (OpenSpec.ofChange procsOnceWrong)

/-- 'conchlaw17.ProcsTree': WHATEVER THE INPUT: true; the input reads as it did. -/
def procsTreeSpec : ChangeSpec := { name := "procsTree", fn := fun _ => fun
  | [d] => { results := [.lit (.bool true)], args := [d] }
  | _ => none }
def procsTreeRow : OpenClaim := { program := "ytkponloccimdlaa", sum := "cf70c4e8efdddd0d915c8acbb66a2c10e5dc8f75992bc755f1a122746caba04a", func := "conch/conchlaw17.ProcsTree", spec := "procsTree", apart := false }
def ProcsTreeSaid : Prop := procsTreeRow.holds Try.pinned (OpenSpec.ofChange procsTreeSpec)

/-- ITS FALSE NEIGHBOUR: 'it returns false'. Refute it at one input. -/
def procsTreeWrong : ChangeSpec := { name := "procsTree", fn := fun _ => fun
  | [d] => { results := [.lit (.bool false)], args := [d] }
  | _ => none }
def ProcsTreeWrongFalsely : Prop := procsTreeRow.holds Try.pinned (OpenSpec.ofChange procsTreeWrong)

/-- 'conchlaw17.ProcsPlays': WHATEVER THE INPUT: true; the input reads as it did. -/
def procsPlaysSpec : ChangeSpec := { name := "procsPlays", fn := fun _ => fun
  | [d1, d2] => { results := [.lit (.bool true)], args := [d1, d2] }
  | _ => none }
def procsPlaysRow : OpenClaim := { program := "ytkponloccimdlaa", sum := "cf70c4e8efdddd0d915c8acbb66a2c10e5dc8f75992bc755f1a122746caba04a", func := "conch/conchlaw17.ProcsPlays", spec := "procsPlays", recurses := true, apart := false }
def ProcsPlaysSaid : Prop := procsPlaysRow.holds Try.pinned (OpenSpec.ofChange procsPlaysSpec)

/-- ITS FALSE NEIGHBOUR: 'it returns false'. Refute it at one input. -/
def procsPlaysWrong : ChangeSpec := { name := "procsPlays", fn := fun _ => fun
  | [d1, d2] => { results := [.lit (.bool false)], args := [d1, d2] }
  | _ => none }
def ProcsPlaysWrongFalsely : Prop := procsPlaysRow.holds Try.pinned (OpenSpec.ofChange procsPlaysWrong)

/-- 'conchlaw17.ProcsNil': WHATEVER THE INPUT: true; the input reads as it did. -/
def procsNilSpec : ChangeSpec := { name := "procsNil", fn := fun _ => fun
  | [d1, d2] => { results := [.lit (.bool true)], args := [d1, d2] }
  | _ => none }
def procsNilRow : OpenClaim := { program := "ytkponloccimdlaa", sum := "cf70c4e8efdddd0d915c8acbb66a2c10e5dc8f75992bc755f1a122746caba04a", func := "conch/conchlaw17.ProcsNil", spec := "procsNil", recurses := true, apart := false }
def ProcsNilSaid : Prop := procsNilRow.holds Try.pinned (OpenSpec.ofChange procsNilSpec)

/-- ITS FALSE NEIGHBOUR: 'it returns false'. Refute it at one input. -/
def procsNilWrong : ChangeSpec := { name := "procsNil", fn := fun _ => fun
  | [d1, d2] => { results := [.lit (.bool false)], args := [d1, d2] }
  | _ => none }
def ProcsNilWrongFalsely : Prop := procsNilRow.holds Try.pinned (OpenSpec.ofChange procsNilWrong)

/- THE SECOND FORM. 'bulk': how many values and letters a reading holds, each counted each time it is reached (what is shared counts as often as it is met; a slice's spare places count too). A statement '..UptoSaid' is the law's where the arguments, and the package variables that the reading takes, are together of bulk at most 1048576: NARROWER than '..Said'. Prove '..Said' where nothing that the law and all that it calls make is longer than what came in: it says more and counts as full. Else prove '..UptoSaid'. A law counts once. -/
mutual
def uptoBulk {H : Type} : DataW H → Nat
  | .lit (.string bytes) => bytes.length + 1
  | .lit _ => 1
  | .nil => 1
  | .ptr d => uptoBulk d + 1
  | .slice elems spare => uptoBulkAll elems + uptoBulkAll spare + 1
  | .agg parts => uptoBulkAll parts + 1
  | .iface _ d => uptoBulk d + 1
  | .map entries => uptoBulkEntries entries + 1
  | .held _ => 1
def uptoBulkAll {H : Type} : List (DataW H) → Nat
  | [] => 0
  | d :: r => uptoBulk d + uptoBulkAll r
def uptoBulkEntries {H : Type} : List (Lit × DataW H) → Nat
  | [] => 0
  | x :: r => uptoBulkEntry x + uptoBulkEntries r
def uptoBulkEntry {H : Type} : Lit × DataW H → Nat
  | (.string bytes, d) => bytes.length + uptoBulk d + 1
  | (_, d) => uptoBulk d + 1
 end
def uptoSmall : (H : Type) → List (DataW H) → Bool := fun _ ds => decide (uptoBulkAll ds ≤ 1048576)
def OpenSpec.upto (s : _root_.Go.ChangeSpec) : _root_.Go.OpenSpec := { _root_.Go.OpenSpec.ofChange s with cond := some uptoSmall }

/-- 'conchlaw17.ProcsOnce', WHERE WHAT IT READS IS OF BULK AT MOST 1048576: true; the input reads as it did. -/
def procsOnceUptoRow : OpenClaim := { program := "ytkponloccimdlaa", sum := "cf70c4e8efdddd0d915c8acbb66a2c10e5dc8f75992bc755f1a122746caba04a", func := "conch/conchlaw17.ProcsOnce", spec := "procsOnce", apart := false, narrowed := true }
def ProcsOnceUptoSaid : Prop := procsOnceUptoRow.holds Try.pinned (OpenSpec.upto procsOnceSpec)

/-- 'conchlaw17.ProcsTree', WHERE WHAT IT READS IS OF BULK AT MOST 1048576: true; the input reads as it did. -/
def procsTreeUptoRow : OpenClaim := { program := "ytkponloccimdlaa", sum := "cf70c4e8efdddd0d915c8acbb66a2c10e5dc8f75992bc755f1a122746caba04a", func := "conch/conchlaw17.ProcsTree", spec := "procsTree", apart := false, narrowed := true }
def ProcsTreeUptoSaid : Prop := procsTreeUptoRow.holds Try.pinned (OpenSpec.upto procsTreeSpec)

/-- 'conchlaw17.ProcsPlays', WHERE WHAT IT READS IS OF BULK AT MOST 1048576: true; the input reads as it did. -/
def procsPlaysUptoRow : OpenClaim := { program := "ytkponloccimdlaa", sum := "cf70c4e8efdddd0d915c8acbb66a2c10e5dc8f75992bc755f1a122746caba04a", func := "conch/conchlaw17.ProcsPlays", spec := "procsPlays", recurses := true, apart := false, narrowed := true }
def ProcsPlaysUptoSaid : Prop := procsPlaysUptoRow.holds Try.pinned (OpenSpec.upto procsPlaysSpec)

/-- 'conchlaw17.ProcsNil', WHERE WHAT IT READS IS OF BULK AT MOST 1048576: true; the input reads as it did. -/
def procsNilUptoRow : OpenClaim := { program := "ytkponloccimdlaa", sum := "cf70c4e8efdddd0d915c8acbb66a2c10e5dc8f75992bc755f1a122746caba04a", func := "conch/conchlaw17.ProcsNil", spec := "procsNil", recurses := true, apart := false, narrowed := true }
def ProcsNilUptoSaid : Prop := procsNilUptoRow.holds Try.pinned (OpenSpec.upto procsNilSpec)

end Rows
end Go.Proofs.Ytkponloccimdlaa
