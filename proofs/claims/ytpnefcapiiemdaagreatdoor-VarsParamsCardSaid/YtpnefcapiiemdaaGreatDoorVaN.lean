/- Variables in order: All. Conditions: as each theorem says. -/
import Derived.Test.YtpnefcapiiemdaaGreatDoorVaL
namespace Go.Proofs.YtpnefcapiiemdaaGreatDoor
open E Go.Lib
set_option linter.unusedVariables false
set_option linter.unusedSimpArgs false
set_option maxHeartbeats 1000000
set_option maxRecDepth 20000
section
variable {σ σ' : AS} {X : Ce} {R : List Ck} {k : Value → AS → Prop} {v m m1 : Nat} {av : Value} {zero : Str} {ar : List Str} {st : Int} {l : VL}
/-- What All hands back. -/
def allV (l : VL) : List FV := listV l (sortS (l.map (·.1)))
end
end Go.Proofs.YtpnefcapiiemdaaGreatDoor
