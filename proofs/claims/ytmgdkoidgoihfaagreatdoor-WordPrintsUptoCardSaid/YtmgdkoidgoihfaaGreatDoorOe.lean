/- A whole element of a row that turns. Conditions: as each theorem says. -/
import Derived.Test.YtmgdkoidgoihfaaGreatDoorOc
namespace Go.Proofs.YtmgdkoidgoihfaaGreatDoor
open E Go.Lib
open Go.RowKit
set_option linter.unusedVariables false
set_option linter.unusedSimpArgs false
set_option maxHeartbeats 1000000
set_option maxRecDepth 20000

section
variable {α : Type} [Rp α] {X : Ce} {σ : AS} {R : List Ck} {u : Value}
theorem Own.elem {L : List α} {n : Nat} (h : Hs σ X (E.Own u L :: R)) (hn : n < L.length) : ∃ g c ys, u = .slice (some ⟨g, 0, none⟩) L.length c ∧ L.length ≤ c ∧ c ≤ maxLen ∧ σ.m g = some (.cells ys) ∧ n * Rp.sz α + Rp.sz α ≤ ys.length ∧
    ∀ a' cs, Rp.rp X a' cs → Hs (σ.put g (.cells (ys.take (n * Rp.sz α) ++ cs ++ ys.drop (n * Rp.sz α + Rp.sz α)))) X (E.Own u (L.set n a') :: R) := by
  obtain ⟨F, ⟨rfl, xs, h1, h2⟩, hk⟩ := h.turn
  have hl := h2.len
  have hnn : n * Rp.sz α + Rp.sz α ≤ xs.length := by
    rw [hl, ← Nat.succ_mul]
    exact Nat.mul_le_mul_right _ hn
  rcases h1 with ⟨rfl, h0, _⟩ | ⟨g, c, sp, rfl, hm, hx, hcl, hle, hcm⟩
  · omega
  · refine ⟨g, c, xs ++ sp, rfl, hle, hcm, hm, by rw [List.length_append]; omega, fun a' cs ha => ?_⟩
    have hcs := Rp.len ha
    have e : (xs ++ sp).take (n * Rp.sz α) ++ cs ++ (xs ++ sp).drop (n * Rp.sz α + Rp.sz α) = (xs.take (n * Rp.sz α) ++ cs ++ xs.drop (n * Rp.sz α + Rp.sz α)) ++ sp := by
      rw [List.take_append_of_le_length (by omega), List.drop_append_of_le_length (by omega)]
      simp only [List.append_assoc]
    rw [e]
    have hlen : (xs.take (n * Rp.sz α) ++ cs ++ xs.drop (n * Rp.sz α + Rp.sz α)).length = xs.length := by
      simp only [List.length_append, List.length_take, List.length_drop]; omega
    refine hk (F' := ownL (.slice (some ⟨g, 0, none⟩) L.length c)) ((Chg.refl _ _).put (.inl (by simp [ownL])) _) ⟨rfl, _, .inr ⟨g, c, sp, by rw [List.length_set], by rw [put_eq, hm]; rfl, by rw [List.length_set, hlen]; exact hx, by rw [List.length_append, hlen, ← List.length_append]; exact hcl, by rw [List.length_set]; exact hle, hcm⟩, E.RpL.set h2 n hn ha⟩ (fun g hg => .inl hg)
end
end Go.Proofs.YtmgdkoidgoihfaaGreatDoor
