/- Two tests of which the second one may be passed over, as one. Conditions: none. -/
import Derived.Test.YtmgdkoidgoihfaaGreatDoorG1
namespace Go.Proofs.YtmgdkoidgoihfaaGreatDoor.E
set_option linter.unusedVariables false

theorem grd_or {s : AS} {a b : Bool} {X : (List Value → AS → Prop) → Prop} {K : AS → Value → Prop} (hX : a = false → ∀ k' : List Value → AS → Prop, k' [.bool b] s → X k') (hK : K s (.bool (a || b))) :
    kGrd (.bool a) false X [undef] s fun xs s => un1 xs fun v => kPick (.bool a) (.bool true) v (K s) := by
  cases a with
  | true => exact hK
  | false => exact hX rfl _ hK
theorem grd_and {s : AS} {a b : Bool} {X : (List Value → AS → Prop) → Prop} {K : AS → Value → Prop} (hX : a = true → ∀ k' : List Value → AS → Prop, k' [.bool b] s → X k') (hK : K s (.bool (a && b))) :
    kGrd (.bool a) true X [undef] s fun xs s => un1 xs fun v => kPick (.bool a) v (.bool false) (K s) := by
  cases a with
  | false => exact hK
  | true => exact hX rfl _ hK
end Go.Proofs.YtmgdkoidgoihfaaGreatDoor.E
