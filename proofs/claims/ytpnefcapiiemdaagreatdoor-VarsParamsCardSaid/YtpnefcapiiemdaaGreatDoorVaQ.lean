/- Variables: what is set is kept: the law. Conditions: none. -/
import Derived.Test.YtpnefcapiiemdaaGreatDoorVaP
namespace Go.Proofs.YtpnefcapiiemdaaGreatDoor
open E Go.Lib
set_option linter.unusedVariables false
set_option linter.unusedSimpArgs false
set_option maxHeartbeats 1000000
set_option maxRecDepth 20000
section
variable {σ σ' : AS} {X : Ce} {R : List Ck} {k : Value → AS → Prop} {v m : Nat} {u : Value} {zero n val s : Str} {ms : List Str} {i q most : Int} {S : VM} {w st : Bool} {x' : VV} {ops : List OpV}
theorem TxS.nil : TxS σ (.slice none 0 0) [] := ⟨none, 0, rfl, .inl rfl⟩
theorem opsL {v0 : Value} {c : Ce} (A0 : OV c (shOf Tryz.prog 8 22) v0) : ∃ ops : List OpV, RepL c v0 ops := by
  rw [show shOf Tryz.prog 8 22 = .slice (.fld 1 (.int .i64) (.fld 1 .str (.fld 1 .str (.fld 1 (.int .i64) (.fld 1 (.slice .str 1) .fin))))) 5 from by kernel_rfl] at A0
  exact arg_list (α := OpV) A0
end
end Go.Proofs.YtpnefcapiiemdaaGreatDoor
