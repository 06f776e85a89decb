/- What stands in a list's cells that stay: texts, numbers, truths. Conditions: none. -/
import Derived.Test.YtmgdkoidgoihfaaGreatDoorG1
namespace Go.Proofs.YtmgdkoidgoihfaaGreatDoor
open E
set_option linter.unusedVariables false
set_option linter.unusedSimpArgs false

section
variable {X : Ce} {v : Value}
theorem strs_at {l : List Str} (h : RepL X v l) : ∃ a b o cap, v = .slice a l.length cap ∧ l.length ≤ cap ∧ cap ≤ maxLen ∧ ∀ i (hi : i < l.length), a = some ⟨b, o, none⟩ ∧ X b (o + i) = some (.string (bs l[i])) ∧ l[i].length ≤ maxLen := by
  obtain ⟨a, b, o, cap, h1, h2, h3, h4⟩ := h.get
  refine ⟨a, b, o, cap, h1, h2, h3, fun i hi => ?_⟩
  obtain ⟨h5, cs, ⟨rfl, h6⟩, _, h7⟩ := h4 i hi
  exact ⟨h5, by have := h7 0 _ rfl; simpa [Rp.sz] using this, h6⟩
theorem ints_in {l : List Int} (h : RepL X v l) : ∃ a b o cap, v = .slice a l.length cap ∧ l.length ≤ cap ∧ cap ≤ maxLen ∧ ∀ i (hi : i < l.length), a = some ⟨b, o, none⟩ ∧ X b (o + i) = some (.int .i64 l[i]) ∧ inI64 l[i] := by
  obtain ⟨a, b, o, cap, h1, h2, h3, h4⟩ := h.get
  refine ⟨a, b, o, cap, h1, h2, h3, fun i hi => ?_⟩
  obtain ⟨h5, cs, ⟨rfl, h6⟩, _, h7⟩ := h4 i hi
  exact ⟨h5, by have := h7 0 _ rfl; simpa [Rp.sz] using this, h6⟩
theorem bools_in {l : List Bool} (h : RepL X v l) : ∃ a b o cap, v = .slice a l.length cap ∧ l.length ≤ cap ∧ cap ≤ maxLen ∧ ∀ i (hi : i < l.length), a = some ⟨b, o, none⟩ ∧ X b (o + i) = some (.bool l[i]) := by
  obtain ⟨a, b, o, cap, h1, h2, h3, h4⟩ := h.get
  refine ⟨a, b, o, cap, h1, h2, h3, fun i hi => ?_⟩
  obtain ⟨h5, cs, rfl, _, h7⟩ := h4 i hi
  exact ⟨h5, by have := h7 0 _ rfl; simpa [Rp.sz] using this⟩
end
end Go.Proofs.YtmgdkoidgoihfaaGreatDoor
