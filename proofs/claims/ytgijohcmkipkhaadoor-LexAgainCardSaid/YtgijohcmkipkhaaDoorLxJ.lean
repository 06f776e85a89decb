/- Tokens as they lie; a cell of a row that turns. Conditions: as each theorem says. -/
import Derived.Test.YtgijohcmkipkhaaDoorLxI
import Derived.Test.YtgijohcmkipkhaaDoorLxH
namespace Go.Proofs.YtgijohcmkipkhaaDoor
open E Go.Lib
open Go.RowKit
set_option linter.unusedVariables false
set_option linter.unusedSimpArgs false
set_option maxHeartbeats 1000000
set_option maxRecDepth 20000

abbrev tokC (t : Tok) (b : Bool) : List Value := [.int .i64 t.kind, .string (bs t.text), .int .i64 t.at', .string (bs t.body), .bool b]
def TokP (t : Tok) (b : Bool) : Prop := (∀ x, t.raw = some x → b = x) ∧ inI64 t.kind ∧ t.at' ≤ 1000000 ∧ t.text.length ≤ 1000000 ∧ t.body.length ≤ 2000000
instance : Rp Tok := ⟨5, by decide, fun _ t cs => ∃ b, cs = tokC t b ∧ TokP t b, fun ⟨b, h, _⟩ => by rw [h]; rfl, fun ⟨b, h, _⟩ => by rw [h]; rfl, fun _ h => h⟩
def WtP (c : Ce) (w : Wt) (g : Nat) : Prop := c g 0 = some (.int .i64 (w.op : Nat)) ∧ c g 1 = some (.string (bs w.fin)) ∧ c g 2 = some (.bool w.tabs) ∧ w.fin.length ≤ 1000000
instance : Rp Wt := ⟨1, by decide, fun c w cs => ∃ g, cs = [.pointer (some ⟨g, 0, none⟩)] ∧ WtP c w g, fun ⟨g, h, _⟩ => by rw [h]; rfl, fun ⟨g, h, _⟩ => by rw [h]; rfl,
  fun hc ⟨g, h, h1, h2, h3, h4⟩ => ⟨g, h, hc _ _ _ h1, hc _ _ _ h2, hc _ _ _ h3, h4⟩⟩
section
variable {α : Type} [Rp α] {X : Ce} {σ : AS} {R : List Ck} {u : Value}
theorem RpL.set : ∀ {L : List α} {xs : List Value} {n : Nat} (hn : n < L.length), RpL X L xs →
    ∃ cs, Rp.rp X L[n] cs ∧ (∀ j v, cs[j]? = some v → xs[n * Rp.sz α + j]? = some v) ∧ (n + 1) * Rp.sz α ≤ xs.length ∧ ∀ j v a', j < Rp.sz α → Rp.rp X a' (cs.set j v) → RpL X (L.set n a') (xs.set (n * Rp.sz α + j) v)
  | a :: L, _, 0, _, ⟨x, y, rfl, h1, h2⟩ => by
    have hl := Rp.len h1
    refine ⟨x, h1, fun j v hv => ?_, by rw [List.length_append]; omega, fun j v a' hj ha => ?_⟩
    · rw [Nat.zero_mul, Nat.zero_add, List.getElem?_append_left (List.getElem?_eq_some_iff.1 hv).1]; exact hv
    · rw [Nat.zero_mul, Nat.zero_add, List.set_append_left _ _ (by omega)]
      exact ⟨_, _, rfl, ha, h2⟩
  | a :: L, _, n + 1, hn, ⟨x, y, rfl, h1, h2⟩ => by
    have hl := Rp.len h1
    obtain ⟨cs, g1, g2, g3, g4⟩ := RpL.set (n := n) (by simpa using hn) h2
    have e : ∀ j, (n + 1) * Rp.sz α + j = x.length + (n * Rp.sz α + j) := fun j => by rw [hl, Nat.succ_mul]; omega
    refine ⟨cs, by simpa using g1, fun j v hv => ?_, by rw [List.length_append, hl, Nat.succ_mul]; omega, fun j v a' hj ha => ?_⟩
    · rw [e, List.getElem?_append_right (by omega), show x.length + (n * Rp.sz α + j) - x.length = n * Rp.sz α + j from by omega]
      exact g2 j v hv
    · rw [e, List.set_append_right _ _ (by omega), show x.length + (n * Rp.sz α + j) - x.length = n * Rp.sz α + j from by omega]
      exact ⟨_, _, rfl, h1, g4 j v a' hj ha⟩
/-- One of a row's elements, as it lies; and a cell of it that turns. -/
theorem Own.cell {L : List α} {n : Nat} (h : Hs σ X (E.Own u L :: R)) (hn : n < L.length) : ∃ g c cs ys, u = .slice (some ⟨g, 0, none⟩) L.length c ∧ L.length ≤ c ∧ c ≤ maxLen ∧ Rp.rp X L[n] cs ∧ σ.m g = some (.cells ys) ∧ (n + 1) * Rp.sz α ≤ ys.length ∧
    (∀ j v, cs[j]? = some v → ys[n * Rp.sz α + j]? = some v) ∧ ∀ j v a', j < Rp.sz α → Rp.rp X a' (cs.set j v) → Hs (σ.put g (.cells (ys.set (n * Rp.sz α + j) v))) X (E.Own u (L.set n a') :: R) := by
  obtain ⟨F, ⟨rfl, xs, h1, h2⟩, hk⟩ := h.turn
  obtain ⟨cs, g1, g2, g3, g4⟩ := RpL.set hn h2
  rcases h1 with ⟨rfl, h0, _⟩ | ⟨g, c, sp, rfl, hm, hx, hcl, hle, hcm⟩
  · omega
  · refine ⟨g, c, cs, xs ++ sp, rfl, hle, hcm, g1, hm, by rw [List.length_append]; omega, fun j v hv => ?_, fun j v a' hj ha => ?_⟩
    · have := g2 j v hv
      rw [List.getElem?_append_left (List.getElem?_eq_some_iff.1 this).1]; exact this
    · have hlt : n * Rp.sz α + j < xs.length := by rw [Nat.succ_mul] at g3; omega
      rw [List.set_append_left _ _ hlt]
      refine hk (F' := ownL (.slice (some ⟨g, 0, none⟩) L.length c)) ((Chg.refl _ _).put (.inl (by simp [ownL])) _) ⟨rfl, xs.set (n * Rp.sz α + j) v, .inr ⟨g, c, sp, by rw [List.length_set], by rw [put_eq, hm]; rfl, by rw [List.length_set, List.length_set]; exact hx, by rw [List.length_append, List.length_set, ← List.length_append]; exact hcl, by rw [List.length_set]; exact hle, hcm⟩, g4 j v a' hj ha⟩ (fun g hg => .inl hg)
end
section
variable {σ σ' : AS} {X : Ce} {R : List Ck} {u : Value} {L : List Tok} {n : Nat}
/-- A token, as it lies, and what may be set in it. -/
theorem tok_at (h : Hs σ X (E.Own (α := Tok) u L :: R)) (hn : n < L.length) : ∃ g c ys b, u = .slice (some ⟨g, 0, none⟩) L.length c ∧ L.length ≤ c ∧ c ≤ maxLen ∧ σ.m g = some (.cells ys) ∧ n * 5 + 5 ≤ ys.length ∧ TokP L[n] b ∧
    ys[n * 5]? = some (.int .i64 L[n].kind) ∧ ys[n * 5 + 1]? = some (.string (bs L[n].text)) ∧ ys[n * 5 + 2]? = some (.int .i64 L[n].at') ∧ ys[n * 5 + 3]? = some (.string (bs L[n].body)) ∧ ys[n * 5 + 4]? = some (.bool b) ∧
    (∀ bd : Str, bd.length ≤ 2000000 → Hs (σ.put g (.cells (ys.set (n * 5 + 3) (.string (bs bd))))) X (E.Own (α := Tok) u (L.set n ⟨L[n].kind, L[n].text, L[n].at', bd, L[n].raw⟩) :: R)) ∧
    (∀ x : Bool, Hs (σ.put g (.cells (ys.set (n * 5 + 4) (.bool x)))) X (E.Own (α := Tok) u (L.set n ⟨L[n].kind, L[n].text, L[n].at', L[n].body, none⟩) :: R)) := by
  obtain ⟨g, c, cs, ys, h1, h2, h3, ⟨b, rfl, h4⟩, h5, h6, h7, h8⟩ := Own.cell h hn
  have h6 : (n + 1) * 5 ≤ ys.length := h6
  refine ⟨g, c, ys, b, h1, h2, h3, h5, by omega, h4, h7 0 _ rfl, h7 1 _ rfl, h7 2 _ rfl, h7 3 _ rfl, h7 4 _ rfl, fun bd hb => h8 3 _ _ (by decide) ⟨b, rfl, h4.1, h4.2.1, h4.2.2.1, h4.2.2.2.1, hb⟩, fun x => h8 4 _ _ (by decide) ⟨x, rfl, fun y hy => (by cases hy), h4.2⟩⟩
end
end Go.Proofs.YtgijohcmkipkhaaDoor
