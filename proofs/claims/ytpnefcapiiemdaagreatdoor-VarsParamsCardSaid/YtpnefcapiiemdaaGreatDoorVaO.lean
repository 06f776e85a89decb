/- Variables in order: rows that are copied, and compared. Conditions: as each theorem says. -/
import Derived.Test.YtpnefcapiiemdaaGreatDoorVaN
import Derived.Test.YtpnefcapiiemdaaGreatDoorOe
namespace Go.Proofs.YtpnefcapiiemdaaGreatDoor
open E Go.Lib
set_option linter.unusedVariables false
set_option linter.unusedSimpArgs false
set_option maxHeartbeats 1000000
set_option maxRecDepth 20000
section
variable {σ σ' : AS} {X : Ce} {R : List Ck} {k : Value → AS → Prop} {a b u v : Value} {L : List FV} {l : List Str}
theorem VarR.get (h : Hs σ X (VarR v L :: R)) : ∃ a g o cap, v = .slice a L.length cap ∧ L.length ≤ cap ∧ cap ≤ maxLen ∧ ∀ i (hi : i < L.length), a = some ⟨g, o, none⟩ ∧ (∀ j w, (celF L[i])[j]? = some w → ldOb (σ.c g (o + i * 5 + j)) (σ.m g) (o + i * 5 + j) = some w) := by
  obtain ⟨F, h1, _⟩ := h.s
  rcases h1 with ⟨rfl, rfl, _⟩ | ⟨g, cap, sp, rfl, _, h3, h4, h5⟩
  · exact ⟨none, 0, 0, 0, rfl, Nat.le_refl _, by unfold maxLen; decide, fun i hi => by cases hi⟩
  · refine ⟨_, g, 0, cap, rfl, h4, h5, fun i hi => ⟨rfl, fun j w hw => ?_⟩⟩
    rw [h3, Nat.zero_add]
    have hj : j < 5 := by
      have := (List.getElem?_eq_some_iff.1 hw).1
      simpa using this
    show (flat celF L sp)[i * 5 + j]? = _
    rw [flat_get (z := 5) (fun _ => rfl) (List.getElem?_eq_getElem hi) hj]
    exact hw
end
end Go.Proofs.YtpnefcapiiemdaaGreatDoor
