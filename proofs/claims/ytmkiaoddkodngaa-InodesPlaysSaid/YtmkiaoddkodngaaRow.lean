/- Rows of cells that grow, as things. Conditions: as each theorem says. -/
import Derived.Test.YtmkiaoddkodngaaG1
namespace Go.Proofs.Ytmkiaoddkodngaa.E
open Go.RowKit Go.Lib
set_option linter.unusedVariables false
set_option linter.unusedSimpArgs false

/-- A row of n elements, sz cells each, in a block of its own. -/
def Raw (sz : Nat) (v : Value) (n : Nat) (xs : List Value) : Ck := ⟨fun F X σ => F = ownL v ∧ OwnV σ v n sz xs, fun ⟨h, h1⟩ _ hm => ⟨h, h1.loc (fun g hg => hm g (by rw [h]; exact hg))⟩, fun ⟨h, h1⟩ g hg => h1.lt (by rw [h] at hg; exact hg)⟩
/-- The order of things does not matter. -/
theorem Sep.perm {σ : AS} {X : Ce} {R R' : List Ck} (hp : R.Perm R') : ∀ {A : Nat → Prop}, Sep X σ R A → Sep X σ R' A := by
  induction hp with
  | nil => intro A h; exact h
  | cons C _ ih => intro A ⟨F, h1, h2, h3⟩; exact ⟨F, h1, h2, ih h3⟩
  | swap C D R => intro A h; exact h.swap
  | trans _ _ ih1 ih2 => intro A h; exact ih2 (ih1 h)
theorem Hs.perm {σ : AS} {X : Ce} {R R' : List Ck} (h : Hs σ X R) (hp : R.Perm R') : Hs σ X R' := ⟨h.x, h.s.perm hp⟩
theorem Hs.dropL {σ : AS} {X : Ce} {R : List Ck} : ∀ {Cs : List Ck}, Hs σ X (Cs ++ R) → Hs σ X R
  | [], h => h
  | _ :: _, h => Hs.dropL h.drop
section
variable {P : Program} {k : Value → AS → Prop} {σ σ' : AS} {X : Ce} {R : List Ck} {sz n m c b o bytes : Nat} {v : Value} {xs news : List Value} {t e : TypeId}
theorem Hs.raw0 (h : Hs σ X R) (sz : Nat) : Hs σ X (Raw sz (.slice none 0 0) 0 [] :: R) := h.more (F := []) (Chg.refl _ _) ⟨rfl, OwnV.nil _ _⟩ (by simp)
theorem Hs.rawMade (h : Hs σ X R) {l : List Value} (hl : l.length = n * sz) (hn : n ≤ maxLen) : Hs (σ.new (.cells l)) X (Raw sz (.slice (some ⟨σ.n, 0, none⟩) n n) n l :: R) :=
  h.more ((Chg.refl _ _).new _) (F := [σ.n]) ⟨rfl, OwnV.made σ l n sz hl hn⟩ (by simp)
theorem Hs.rawV (h : Hs σ X (Raw sz v n xs :: R)) : ∃ x c, v = .slice x n c ∧ n ≤ c := by
  obtain ⟨_, ⟨_, h1⟩, _⟩ := h.s
  exact h1.val
theorem rapp_by (h : Hs σ X (Raw sz v n xs :: R)) (ht : P.underlying t = some (.slice e)) (hi : infB P e sz bytes = true) (hn : ldsS σ b o (m * sz) = some news) (h1 : news.all okCell = true)
    (hlen : (n + m) * bytes ≤ 140737488355328) (hlen' : n + m ≤ maxLen) (hk : ∀ v' σ', Hs σ' X (Raw sz v' (n + m) (xs ++ news) :: R) → k v' σ') : kApp P t t v (.slice (some ⟨b, o, none⟩) m c) σ k := by
  obtain ⟨F, ⟨rfl, hown⟩, hk2⟩ := h.turn
  refine app_by ht hi hown hn h1 hlen hlen' fun v' σ' ho hc hg => hk v' σ' ?_
  exact hk2 hc ⟨rfl, ho⟩ (fun g hg' => by
    rcases hg g hg' with h | rfl
    · exact .inl h
    · exact .inr (Nat.le_refl _))
/-- A row that has something, as a block. -/
theorem Hs.rawCel (h : Hs σ X (Raw sz v n xs :: R)) (h0 : 0 < n) : ∃ g c sp, v = .slice (some ⟨g, 0, none⟩) n c ∧ n ≤ c ∧ c ≤ maxLen ∧ xs.length = n * sz ∧ (xs ++ sp).length = c * sz ∧ Hs σ X (Cel g (xs ++ sp) :: R) := by
  obtain ⟨F, ⟨rfl, hown⟩, hk⟩ := h.turn
  rcases hown with ⟨_, rfl, _⟩ | ⟨g, c, sp, rfl, hm, hl, hcl, hnc, hcm⟩
  · omega
  · exact ⟨g, c, sp, rfl, hnc, hcm, hl, hcl, hk (Chg.refl _ _) (F' := [g]) ⟨rfl, hm⟩ (fun g' hg => .inl hg)⟩
end
end Go.Proofs.Ytmkiaoddkodngaa.E
