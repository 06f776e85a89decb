/- The walks of the functions, printed by a program of this proof, each held against the loaded program by the kernel. Conditions: none. -/
import Derived.Test.YtkpnackmijjciaaGreatDoorProg
import Derived.Test.YtkpnackmijjciaaGreatDoorF6
namespace Go.Proofs.YtkpnackmijjciaaGreatDoor
open E
set_option maxRecDepth 100000
set_option linter.unusedVariables false

/- maps.Clone[map[string]conch vars.Var,string,conch vars.Var] -/
def F52 (m_0 : Value) (s : AS) (k : Value → AS → Prop) : Prop :=
 kJoin (fun _ s =>
 kGen Tryz.prog (.mki 59) [m_0] s fun v6 s =>
 kGen Tryz.prog (.ext 69) [v6] s fun v7 s =>
 kGen Tryz.prog (.tas 20 59 false) [v7] s fun v8 s =>
 k v8 s) fun J1 =>
 kEq 2 false m_0 (.map none) fun v4 =>
 kCond v4 (
 k (.map none) s) (
 J1 [] s)
theorem F52_ok (m_0 : Value) (s : AS) (k : Value → AS → Prop) : denFn Tryz.prog [] 52 [m_0] s k = F52 m_0 s k := by kernel_rfl
theorem f52 {m_0 : Value} {s : AS} {k : Value → AS → Prop} (h : F52 m_0 s k) : kCall Tryz.prog 52 [m_0] s k := denFn_ok [] (cast (F52_ok m_0 s k).symm h)
theorem k52_ok : okFn Tryz.prog 52 = true := by kernel_rfl

end Go.Proofs.YtkpnackmijjciaaGreatDoor
