/- A cell of a row that turns. Conditions: as each theorem says. -/
import Derived.Test.YtmgdkoidgoihfaaGreatDoorRng
namespace Go.Proofs.YtmgdkoidgoihfaaGreatDoor
open E Go.Lib
open Go.RowKit
set_option linter.unusedVariables false
set_option linter.unusedSimpArgs false
set_option maxHeartbeats 1000000
set_option maxRecDepth 20000

section
variable {α : Type} [Rp α] {X : Ce} {σ : AS} {R : List Ck} {u : Value}
theorem RpL.set : ∀ {L : List α} {xs : List Value} {n : Nat} (hn : n < L.length), RpL X L xs →
    ∃ cs, Rp.rp X L[n] cs ∧ (∀ j v, cs[j]? = some v → xs[n * Rp.sz α + j]? = some v) ∧ (n + 1) * Rp.sz α ≤ xs.length ∧ ∀ j v a', j < Rp.sz α → Rp.rp X a' (cs.set j v) → RpL X (L.set n a') (xs.set (n * Rp.sz α + j) v)
  | a :: L, _, 0, _, ⟨x, y, rfl, h1, h2⟩ => by
    have hl := Rp.len h1
    refine ⟨x, h1, fun j v hv => ?_, by rw [List.length_append]; omega, fun j v a' hj ha => ?_⟩
    · rw [Nat.zero_mul, Nat.zero_add, List.getElem?_append_left (List.getElem?_eq_some_iff.1 hv).1]; exact hv
    · rw [Nat.zero_mul, Nat.zero_add, List.set_append_left _ _ (by omega)]
      exact ⟨_, _, rfl, ha, h2⟩
  | a :: L, _, n + 1, hn, ⟨x, y, rfl, h1, h2⟩ => by
    have hl := Rp.len h1
    obtain ⟨cs, g1, g2, g3, g4⟩ := RpL.set (n := n) (by simpa using hn) h2
    have e : ∀ j, (n + 1) * Rp.sz α + j = x.length + (n * Rp.sz α + j) := fun j => by rw [hl, Nat.succ_mul]; omega
    refine ⟨cs, by simpa using g1, fun j v hv => ?_, by rw [List.length_append, hl, Nat.succ_mul]; omega, fun j v a' hj ha => ?_⟩
    · rw [e, List.getElem?_append_right (by omega), show x.length + (n * Rp.sz α + j) - x.length = n * Rp.sz α + j from by omega]
      exact g2 j v hv
    · rw [e, List.set_append_right _ _ (by omega), show x.length + (n * Rp.sz α + j) - x.length = n * Rp.sz α + j from by omega]
      exact ⟨_, _, rfl, h1, g4 j v a' hj ha⟩
/-- One of a row's elements, as it lies; and a cell of it that turns. -/
theorem Own.cell {L : List α} {n : Nat} (h : Hs σ X (E.Own u L :: R)) (hn : n < L.length) : ∃ g c cs ys, u = .slice (some ⟨g, 0, none⟩) L.length c ∧ L.length ≤ c ∧ c ≤ maxLen ∧ Rp.rp X L[n] cs ∧ σ.m g = some (.cells ys) ∧ (n + 1) * Rp.sz α ≤ ys.length ∧
    (∀ j v, cs[j]? = some v → ys[n * Rp.sz α + j]? = some v) ∧ ∀ j v a', j < Rp.sz α → Rp.rp X a' (cs.set j v) → Hs (σ.put g (.cells (ys.set (n * Rp.sz α + j) v))) X (E.Own u (L.set n a') :: R) := by
  obtain ⟨F, ⟨rfl, xs, h1, h2⟩, hk⟩ := h.turn
  obtain ⟨cs, g1, g2, g3, g4⟩ := RpL.set hn h2
  rcases h1 with ⟨rfl, h0, _⟩ | ⟨g, c, sp, rfl, hm, hx, hcl, hle, hcm⟩
  · omega
  · refine ⟨g, c, cs, xs ++ sp, rfl, hle, hcm, g1, hm, by rw [List.length_append]; omega, fun j v hv => ?_, fun j v a' hj ha => ?_⟩
    · have := g2 j v hv
      rw [List.getElem?_append_left (List.getElem?_eq_some_iff.1 this).1]; exact this
    · have hlt : n * Rp.sz α + j < xs.length := by rw [Nat.succ_mul] at g3; omega
      rw [List.set_append_left _ _ hlt]
      refine hk (F' := ownL (.slice (some ⟨g, 0, none⟩) L.length c)) ((Chg.refl _ _).put (.inl (by simp [ownL])) _) ⟨rfl, xs.set (n * Rp.sz α + j) v, .inr ⟨g, c, sp, by rw [List.length_set], by rw [put_eq, hm]; rfl, by rw [List.length_set, List.length_set]; exact hx, by rw [List.length_append, List.length_set, ← List.length_append]; exact hcl, by rw [List.length_set]; exact hle, hcm⟩, g4 j v a' hj ha⟩ (fun g hg => .inl hg)
end
end Go.Proofs.YtmgdkoidgoihfaaGreatDoor
