/- A row of bytes as a string. Conditions: as each theorem says. -/
import Derived.Test.YtpnefcapiiemdaaGreatDoorOe
import Derived.Test.YtpnefcapiiemdaaGreatDoorC
namespace Go.Proofs.YtpnefcapiiemdaaGreatDoor
open E Go.Lib
set_option linter.unusedVariables false
set_option linter.unusedSimpArgs false
set_option maxHeartbeats 1000000
set_option maxRecDepth 20000
section
variable {σ σ' : AS} {X : Ce} {R : List Ck} {kk : Value → Prop} {v : Value} {l : List UInt8}
/-- A row of bytes as a string. -/
theorem cvO_by (h : Hs σ X (E.Own (α := UInt8) v l :: R)) (hk : kk (.string (bs l))) : kCvBS σ v kk := by
  obtain ⟨F, ⟨rfl, xs, h1, h2⟩, _⟩ := h.s
  have hx : xs = l.map fun b => .int .u8 b.toNat := by
    have : ∀ (l : List UInt8) (xs : List Value), RpL X l xs → xs = l.map fun b => .int .u8 b.toNat := by
      intro l
      induction l with
      | nil => intro xs h; exact h
      | cons a l ih =>
        intro xs ⟨x, y, e, hx, hy⟩
        rw [e, ih y hy, show x = [.int .u8 a.toNat] from hx]
        rfl
    exact this l xs h2
  rcases h1 with ⟨rfl, h0, _⟩ | ⟨g, c, sp, rfl, hm, hxl, hcl, hle, hcm⟩
  · have : l = [] := List.eq_nil_of_length_eq_zero h0
    subst this
    exact hk
  · refine ⟨rfl, l, rfl, ?_, hk⟩
    rw [ldsM hm l.length 0 (by rw [List.length_append, hx]; simp), List.drop_zero, List.take_append_of_le_length (by rw [hx]; simp), List.take_of_length_le (by rw [hx]; simp), hx]
end
end Go.Proofs.YtpnefcapiiemdaaGreatDoor
