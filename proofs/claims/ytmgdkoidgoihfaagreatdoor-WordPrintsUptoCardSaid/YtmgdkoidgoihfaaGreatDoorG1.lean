/- Many blocks as one thing; nil maps. Conditions: as each theorem says. -/
import Derived.Test.YtmgdkoidgoihfaaGreatDoorMp
namespace Go.Proofs.YtmgdkoidgoihfaaGreatDoor.E
open Go.RowKit Go.Lib
set_option linter.unusedVariables false
set_option linter.unusedSimpArgs false

/-- Blocks of cells, as many as there are. -/
def Objs (ps : List (Nat × List Value)) : Ck := ⟨fun F X σ => F = ps.map Prod.fst ∧ (ps.map Prod.fst).Nodup ∧ ∀ q, q ∈ ps → σ.m q.1 = some (.cells q.2), fun ⟨h, h1, h2⟩ _ hm => ⟨h, h1, fun q hq => (hm _ (by rw [h]; exact List.mem_map.2 ⟨q, hq, rfl⟩)).trans (h2 q hq)⟩, fun {F X σ} ⟨h, h1, h2⟩ g hg => by
    rw [h] at hg
    obtain ⟨q, hq, rfl⟩ := List.mem_map.1 hg
    exact σ.lt (h2 q hq)⟩
section
variable {σ : AS} {X : Ce} {R : List Ck} {ps : List (Nat × List Value)} {p : Nat} {cs cs' : List Value}
def updO (ps : List (Nat × List Value)) (p : Nat) (cs : List Value) : List (Nat × List Value) := ps.map fun q => if q.1 = p then (p, cs) else q
theorem updO_fst : (updO ps p cs).map Prod.fst = ps.map Prod.fst := by
  unfold updO
  rw [List.map_map]
  refine List.map_congr_left (fun a _ => ?_)
  simp only [Function.comp]
  split
  · rename_i h; exact h.symm
  · rfl
theorem Hs.objs (h : Hs σ X (Objs ps :: R)) (hp : (p, cs) ∈ ps) : σ.m p = some (.cells cs) := by
  obtain ⟨_, ⟨_, _, h1⟩, _⟩ := h.s
  exact h1 _ hp
theorem Hs.objsN (h : Hs σ X (Objs ps :: R)) : (ps.map Prod.fst).Nodup := by
  obtain ⟨_, ⟨_, h1, _⟩, _⟩ := h.s
  exact h1
theorem Hs.putO (h : Hs σ X (Objs ps :: R)) (hp : (p, cs) ∈ ps) : Hs (σ.put p (.cells cs')) X (Objs (updO ps p cs') :: R) := by
  obtain ⟨F, ⟨rfl, hn, hm⟩, hk⟩ := h.turn
  have hpm : p ∈ ps.map Prod.fst := List.mem_map.2 ⟨_, hp, rfl⟩
  refine hk (F' := ps.map Prod.fst) ((Chg.refl _ _).put (.inl hpm) _) ⟨updO_fst.symm, by rw [updO_fst]; exact hn, fun q hq => ?_⟩ (fun g hg => .inl hg)
  unfold updO at hq
  obtain ⟨a, ha, rfl⟩ := List.mem_map.1 hq
  split
  · rename_i he
    show (σ.put p (.cells cs')).m p = _
    rw [put_eq, hm _ hp]; rfl
  · rename_i he
    rw [put_ne he]; exact hm a ha
/-- A block more. -/
theorem Hs.addO (h : Hs σ X (Objs ps :: R)) : Hs (σ.new (.cells cs)) X (Objs (ps ++ [(σ.n, cs)]) :: R) := by
  obtain ⟨F, ⟨rfl, hn, hm⟩, hk⟩ := h.turn
  have hlt : ∀ q, q ∈ ps → q.1 < σ.n := fun q hq => σ.lt (hm q hq)
  refine hk (F' := (ps ++ [(σ.n, cs)]).map Prod.fst) ((Chg.refl _ _).new _) ⟨rfl, ?_, fun q hq => ?_⟩ (fun g hg => ?_)
  · rw [List.map_append, List.nodup_append]
    refine ⟨hn, by simp, fun a ha b hb => ?_⟩
    obtain ⟨q, hq, rfl⟩ := List.mem_map.1 ha
    simp at hb; subst hb
    have := hlt q hq; omega
  · rcases List.mem_append.1 hq with hq | hq
    · rw [new_ne (by have := hlt q hq; omega)]; exact hm q hq
    · simp at hq; subst hq; exact new_eq_
  · rw [List.map_append, List.mem_append] at hg
    rcases hg with hg | hg
    · exact .inl hg
    · simp at hg; exact .inr (by omega)
/-- Some of them are forgotten. -/
theorem Hs.fewerO (h : Hs σ X (Objs ps :: R)) (f : Nat × List Value → Bool) : Hs σ X (Objs (ps.filter f) :: R) := by
  obtain ⟨F, ⟨rfl, hn, hm⟩, hk⟩ := h.turn
  refine hk (F' := (ps.filter f).map Prod.fst) (Chg.refl _ _) ⟨rfl, ?_, fun q hq => hm q (List.mem_filter.1 hq).1⟩ (fun g hg => .inl ?_)
  · exact hn.sublist (List.filter_sublist.map _)
  · obtain ⟨q, hq, rfl⟩ := List.mem_map.1 hg
    exact List.mem_map.2 ⟨q, (List.mem_filter.1 hq).1, rfl⟩
theorem Hs.noO (h : Hs σ X R) : Hs σ X (Objs [] :: R) := h.more (F := []) (Chg.refl _ _) ⟨rfl, by simp, by simp⟩ (by simp)
end

/-! ### Things at their places -/
theorem Sep.unfront {σ : AS} {X : Ce} {C : Ck} : ∀ {R : List Ck} {A : Nat → Prop} (i : Nat), i < R.length → Sep X σ (C :: R.eraseIdx i) A → Sep X σ (R.set i C) A
  | [], _, i, h, _ => by simp at h
  | C0 :: R, A, 0, _, h => h
  | C0 :: R, A, i + 1, hi, h => by
    obtain ⟨F, h1, h2, h3⟩ := Sep.swap h
    exact ⟨F, h1, h2, h3.unfront i (by simpa using hi)⟩
section
variable {σ : AS} {X : Ce} {R : List Ck} {C : Ck} {p : Nat} {cs cs' : List Value}
theorem Hs.unfront (i : Nat) (h : Hs σ X (C :: R.eraseIdx i)) (hi : i < R.length) : Hs σ X (R.set i C) := ⟨h.x, h.s.unfront i hi⟩
theorem Hs.celAt (i : Nat) (h : Hs σ X R) (hi : R[i]? = some (Cel p cs)) : σ.m p = some (.cells cs) := (h.front i hi).obj
theorem Hs.putAt (i : Nat) (h : Hs σ X R) (hi : R[i]? = some (Cel p cs)) : Hs (σ.put p (.cells cs')) X (R.set i (Cel p cs')) :=
  (h.front i hi).put.unfront i (List.getElem?_eq_some_iff.1 hi).1
end

/-! ### A thing made of things -/
def SepF (X : Ce) (σ : AS) : List Ck → List Nat → Prop
  | [], F => F = []
  | C :: R, F => ∃ F1 F2, F = F1 ++ F2 ∧ C.H F1 X σ ∧ (∀ g, g ∈ F1 → g ∉ F2) ∧ SepF X σ R F2
theorem SepF.loc {X X' : Ce} {σ σ' : AS} : ∀ {R : List Ck} {F : List Nat}, SepF X σ R F → Ce.le X X' → (∀ g, g ∈ F → σ'.m g = σ.m g) → SepF X' σ' R F
  | [], _, h, _, _ => h
  | C :: R, _, ⟨F1, F2, rfl, h1, h2, h3⟩, hx, hm => ⟨F1, F2, rfl, C.loc h1 hx (fun g hg => hm g (List.mem_append_left _ hg)), h2, h3.loc hx (fun g hg => hm g (List.mem_append_right _ hg))⟩
theorem SepF.live {X : Ce} {σ : AS} : ∀ {R : List Ck} {F : List Nat}, SepF X σ R F → ∀ g, g ∈ F → g < σ.n
  | [], _, h, g, hg => by rw [show _ = _ from h] at hg; cases hg
  | C :: R, _, ⟨F1, F2, rfl, h1, h2, h3⟩, g, hg => by
    rcases List.mem_append.1 hg with hg | hg
    · exact C.live h1 g hg
    · exact h3.live g hg
theorem Sep.split {X : Ce} {σ : AS} {R : List Ck} : ∀ {Cs : List Ck} {A : Nat → Prop}, Sep X σ (Cs ++ R) A → ∃ F, SepF X σ Cs F ∧ (∀ g, g ∈ F → ¬ A g) ∧ Sep X σ R (fun b => A b ∨ b ∈ F)
  | [], A, h => ⟨[], rfl, by simp, h.anti (fun g hg => hg.elim id (fun h => by cases h))⟩
  | C :: Cs, A, ⟨F1, h1, h2, h3⟩ => by
    obtain ⟨F2, h4, h5, h6⟩ := Sep.split h3
    refine ⟨F1 ++ F2, ⟨F1, F2, rfl, h1, fun g hg hg2 => h5 g hg2 (.inr hg), h4⟩, fun g hg => ?_, h6.anti (fun g hg => ?_)⟩
    · rcases List.mem_append.1 hg with hg | hg
      · exact h2 g hg
      · exact fun ha => h5 g hg (.inl ha)
    · rcases hg with hg | hg
      · exact .inl (.inl hg)
      · rcases List.mem_append.1 hg with hg | hg
        · exact .inl (.inr hg)
        · exact .inr hg
theorem Sep.unite {X : Ce} {σ : AS} {R : List Ck} : ∀ {Cs : List Ck} {A : Nat → Prop} {F : List Nat}, SepF X σ Cs F → (∀ g, g ∈ F → ¬ A g) → Sep X σ R (fun b => A b ∨ b ∈ F) → Sep X σ (Cs ++ R) A
  | [], A, F, h, _, h3 => h3.anti (fun g hg => .inl hg)
  | C :: Cs, A, _, ⟨F1, F2, rfl, h1, h2, h4⟩, hA, h3 => ⟨F1, h1, fun g hg => hA g (List.mem_append_left _ hg), Sep.unite h4 (fun g hg hg2 => by
      rcases hg2 with hg2 | hg2
      · exact hA g (List.mem_append_right _ hg) hg2
      · exact h2 g hg2 hg) (h3.anti (fun g hg => by
      rcases hg with (hg | hg) | hg
      · exact .inl hg
      · exact .inr (List.mem_append_left _ hg)
      · exact .inr (List.mem_append_right _ hg)))⟩
/-- Things under one name, something hidden. -/
def Exs {α : Type} (p : α → Prop) (f : α → List Ck) : Ck := ⟨fun F X σ => ∃ a, p a ∧ SepF X σ (f a) F, fun ⟨a, h, h1⟩ hx hm => ⟨a, h, h1.loc hx hm⟩, fun ⟨a, _, h1⟩ => h1.live⟩
section
variable {α : Type} {p : α → Prop} {f : α → List Ck} {σ : AS} {X : Ce} {R : List Ck}
theorem Hs.opened (h : Hs σ X (Exs p f :: R)) : ∃ a, p a ∧ Hs σ X (f a ++ R) := by
  obtain ⟨F, ⟨a, h1, h2⟩, h3, h4⟩ := h.s
  exact ⟨a, h1, h.x, Sep.unite h2 h3 h4⟩
theorem Hs.closed (a : α) (hp : p a) (h : Hs σ X (f a ++ R)) : Hs σ X (Exs p f :: R) := by
  obtain ⟨F, h1, h2, h3⟩ := Sep.split h.s
  exact ⟨h.x, F, ⟨a, hp, h1⟩, h2, h3⟩
end
end Go.Proofs.YtmgdkoidgoihfaaGreatDoor.E
