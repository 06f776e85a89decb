/- States as things that lie apart from one another: what each is, which blocks it is made of, and data that stay; how a walk's steps turn them. Conditions: as each theorem says. -/
import Derived.Test.YtmgdkoidgoihfaaGreatDoorF8
namespace Go.Proofs.YtmgdkoidgoihfaaGreatDoor.E
open Go.RowKit Go.Lib
open Rp
set_option linter.unusedVariables false

/-- A thing: what it asks of its blocks, the data that stay, and the state. -/
structure Ck where
  H : List Nat → Ce → AS → Prop
  loc : ∀ {F X X' σ σ'}, H F X σ → Ce.le X X' → (∀ g, g ∈ F → σ'.m g = σ.m g) → H F X' σ'
  live : ∀ {F X σ}, H F X σ → ∀ g, g ∈ F → g < σ.n
def Sep (X : Ce) (σ : AS) : List Ck → (Nat → Prop) → Prop
  | [], _ => True
  | C :: R, A => ∃ F, C.H F X σ ∧ (∀ g, g ∈ F → ¬ A g) ∧ Sep X σ R (fun b => A b ∨ b ∈ F)
def inX (X : Ce) (b : Nat) : Prop := ∃ o, X b o ≠ none
/-- The state has the data X, and the things R, all apart. -/
structure Hs (σ : AS) (X : Ce) (R : List Ck) : Prop where
  x : Ce.le X σ.ld
  s : Sep X σ R (inX X)
section
variable {σ σ' : AS} {X X' : Ce} {R : List Ck} {C C' D : Ck} {A A' : Nat → Prop} {p : Nat} {cs cs' : List Value}
theorem inX_le (h : Ce.le X X') {b : Nat} (hb : inX X b) : inX X' b := by
  obtain ⟨o, ho⟩ := hb
  cases hv : X b o with
  | none => exact absurd hv ho
  | some v => exact ⟨o, by rw [h _ _ _ hv]; simp⟩
theorem inX_lt (h : Ce.le X σ.ld) {b : Nat} (hb : inX X b) : b < σ.n := by
  obtain ⟨o, ho⟩ := hb
  cases hv : X b o with
  | none => exact absurd hv ho
  | some v => exact ld_lt (h _ _ _ hv)
/-- What lies apart from all that turned stays. -/
theorem Sep.frame : ∀ {R : List Ck} {A A' : Nat → Prop}, Sep X σ R A → Ce.le X X' → (∀ g, g < σ.n → ¬ A g → σ'.m g = σ.m g) → (∀ g, A' g → A g ∨ σ.n ≤ g) → Sep X' σ' R A'
  | [], _, _, _, _, _, _ => trivial
  | C :: R, A, A', ⟨F, h, ha, hr⟩, hx, hm, hA => by
    refine ⟨F, C.loc h hx (fun g hg => hm g (C.live h g hg) (ha g hg)), fun g hg hg' => ?_, hr.frame hx (fun g hg hn => hm g hg (fun h => hn (.inl h))) (fun g hg => ?_)⟩
    · rcases hA g hg' with h1 | h1
      · exact ha g hg h1
      · have := C.live h g hg; omega
    · rcases hg with hg | hg
      · rcases hA g hg with h1 | h1
        · exact .inl (.inl h1)
        · exact .inr h1
      · exact .inl (.inr hg)
theorem Sep.anti (h : Sep X σ R A) (hA : ∀ g, A' g → A g) : Sep X σ R A' := h.frame (Ce.le_refl _) (fun _ _ _ => rfl) (fun g hg => .inl (hA g hg))
theorem Sep.swap (h : Sep X σ (D :: C :: R) A) : Sep X σ (C :: D :: R) A := by
  obtain ⟨F0, h0, a0, F, h1, a1, hr⟩ := h
  exact ⟨F, h1, fun g hg hA => a1 g hg (.inl hA), F0, h0, fun g hg hA => hA.elim (a0 g hg) (fun hf => a1 g hf (.inr hg)), hr.anti (fun g hg => by
    rcases hg with (hg | hg) | hg
    · exact .inl (.inl hg)
    · exact .inr hg
    · exact .inl (.inr hg))⟩
theorem Sep.front : ∀ {R : List Ck} {A : Nat → Prop} (i : Nat), Sep X σ R A → R[i]? = some C → Sep X σ (C :: R.eraseIdx i) A
  | [], _, i, _, hi => by simp at hi
  | C0 :: R, A, 0, h, hi => by
    simp only [List.getElem?_cons_zero, Option.some.injEq] at hi
    subst hi
    exact h
  | C0 :: R, A, i + 1, ⟨F0, h0, a0, hr⟩, hi => Sep.swap ⟨F0, h0, a0, hr.front i (by simpa using hi)⟩
theorem Hs.front (i : Nat) (h : Hs σ X R) (hi : R[i]? = some C) : Hs σ X (C :: R.eraseIdx i) := ⟨h.x, h.s.front i hi⟩
theorem Hs.swap (h : Hs σ X (D :: C :: R)) : Hs σ X (C :: D :: R) := ⟨h.x, h.s.swap⟩
theorem Hs.drop (h : Hs σ X (C :: R)) : Hs σ X R := ⟨h.x, by
  obtain ⟨F, _, _, hr⟩ := h.s
  exact hr.anti (fun g hg => .inl hg)⟩
/-- The first thing turns. -/
theorem Hs.take (h : Hs σ X (C :: R)) : ∃ F, C.H F X σ ∧ (∀ g, g ∈ F → ¬ inX X g) ∧ ∀ {σ' : AS} {X' : Ce} {C' : Ck} {F' : List Nat}, Ce.le X X' → (∀ g, g < σ.n → g ∉ F → σ'.m g = σ.m g) → C'.H F' X' σ' →
    (∀ g, g ∈ F' → g ∈ F ∨ σ.n ≤ g) → (∀ g, g ∈ F' → ¬ inX X' g) → (∀ g, inX X' g → inX X g ∨ g ∈ F ∨ σ.n ≤ g) → Ce.le X' σ'.ld → Hs σ' X' (C' :: R) := by
  obtain ⟨F, h1, ha, hr⟩ := h.s
  refine ⟨F, h1, ha, fun hx hm h' hF hA1 hA2 hl => ⟨hl, _, h', hA1, ?_⟩⟩
  refine hr.frame hx (fun g hg hn => hm g hg (fun h => hn (.inr h))) (fun g hg => ?_)
  rcases hg with hg | hg
  · rcases hA2 g hg with h1 | h1 | h1
    · exact .inl (.inl h1)
    · exact .inl (.inr h1)
    · exact .inr h1
  · rcases hF g hg with h1 | h1
    · exact .inl (.inr h1)
    · exact .inr h1
theorem ld_of (hm : σ'.m = σ.m) (hc : σ'.c = σ.c) : σ'.ld = σ.ld := by
  funext b o; unfold AS.ld; rw [hm, hc]
/-- The first thing turns, the data that stay stay as they are. -/
theorem Hs.turn (h : Hs σ X (C :: R)) : ∃ F, C.H F X σ ∧ ∀ {σ' : AS} {C' : Ck} {F' : List Nat}, Chg F σ σ' → C'.H F' X σ' → (∀ g, g ∈ F' → g ∈ F ∨ σ.n ≤ g) → Hs σ' X (C' :: R) := by
  obtain ⟨F, h1, ha, hk⟩ := h.take
  refine ⟨F, h1, fun hc h' hF => hk (Ce.le_refl _) (fun g hg hn => hc.m g hg hn) h' hF (fun g hg hi => ?_) (fun g hg => .inl hg) (fun b o v hv => ?_)⟩
  · rcases hF g hg with h2 | h2
    · exact ha g h2 hi
    · have := inX_lt h.x hi; omega
  · exact hc.ld (h.x _ _ _ hv) (fun hb => ha b hb ⟨o, by rw [hv]; simp⟩)
/-- A thing that is new. -/
theorem Hs.more (h : Hs σ X R) {F : List Nat} (hc : Chg [] σ σ') (h' : C.H F X σ') (hF : ∀ g, g ∈ F → σ.n ≤ g) : Hs σ' X (C :: R) := by
  refine ⟨Ce.le_trans h.x hc.le, F, h', fun g hg hi => ?_, h.s.frame (Ce.le_refl _) (fun g hg _ => hc.m g hg (by simp)) (fun g hg => ?_)⟩
  · have := inX_lt h.x hi; have := hF g hg; omega
  · rcases hg with hg | hg
    · exact .inl hg
    · exact .inr (hF g hg)
theorem Hs.gar (h : Hs σ X R) (hc : Chg [] σ σ') : Hs σ' X R := ⟨Ce.le_trans h.x hc.le, h.s.frame (Ce.le_refl _) (fun g hg _ => hc.m g hg (by simp)) (fun g hg => .inl hg)⟩
theorem Hs.up (h : Hs σ X R) (j : Nat) : Hs (σ.up j) X R := h.gar ((Chg.refl _ _).up j)
theorem Hs.junk (h : Hs σ X R) (ob : Ob) : Hs (σ.new ob) X R := h.gar ((Chg.refl _ _).new ob)
theorem Hs.le (h : Hs σ X R) (hx : Ce.le X' X) (h2 : Sep X' σ R (inX X')) : Hs σ X' R := ⟨Ce.le_trans hx h.x, h2⟩
theorem Hs.start (w : World) : Hs (start w) (start w).c [] := ⟨c_le_ld, trivial⟩
theorem Hs.ldx (h : Hs σ X R) {b o : Nat} {v : Value} (hv : X b o = some v) : ldOb (σ.c b o) (σ.m b) o = some v := by
  rw [← ld_ob]; exact h.x _ _ _ hv

/-! ### A block of cells -/
def Cel (p : Nat) (cs : List Value) : Ck := ⟨fun F X σ => F = [p] ∧ σ.m p = some (.cells cs), fun ⟨h, h1⟩ _ hm => ⟨h, (hm _ (by rw [h]; simp)).trans h1⟩, fun ⟨h, h1⟩ g hg => by rw [h] at hg; simp at hg; subst hg; exact AS.lt h1⟩
theorem Hs.obj (h : Hs σ X (Cel p cs :: R)) : σ.m p = some (.cells cs) := by obtain ⟨_, ⟨_, h⟩, _⟩ := h.s; exact h
theorem Hs.obj1 (h : Hs σ X (C :: Cel p cs :: R)) : σ.m p = some (.cells cs) := h.drop.obj
theorem Hs.obj2 {C2 : Ck} (h : Hs σ X (C :: C2 :: Cel p cs :: R)) : σ.m p = some (.cells cs) := h.drop.drop.obj
theorem Hs.obj3 {C2 C3 : Ck} (h : Hs σ X (C :: C2 :: C3 :: Cel p cs :: R)) : σ.m p = some (.cells cs) := h.drop.drop.drop.obj
theorem Hs.obj4 {C2 C3 C4 : Ck} (h : Hs σ X (C :: C2 :: C3 :: C4 :: Cel p cs :: R)) : σ.m p = some (.cells cs) := h.drop.drop.drop.drop.obj
theorem Hs.lt (h : Hs σ X (Cel p cs :: R)) : p < σ.n := σ.lt h.obj
theorem Hs.put (h : Hs σ X (Cel p cs :: R)) : Hs (σ.put p (.cells cs')) X (Cel p cs' :: R) := by
  obtain ⟨F, ⟨rfl, hm⟩, hk⟩ := h.turn
  exact hk ((Chg.refl _ _).put (.inl (by simp)) _) ⟨rfl, by rw [put_eq, hm]; rfl⟩ (fun g hg => .inl hg)
theorem Hs.put1 (h : Hs σ X (C :: Cel p cs :: R)) : Hs (σ.put p (.cells cs')) X (C :: Cel p cs' :: R) := h.swap.put.swap
theorem Hs.rot2 {C2 : Ck} (h : Hs σ X (C :: C2 :: D :: R)) : Hs σ X (D :: C :: C2 :: R) := h.front 2 rfl
theorem Hs.rot3 {C2 C3 : Ck} (h : Hs σ X (C :: C2 :: C3 :: D :: R)) : Hs σ X (D :: C :: C2 :: C3 :: R) := h.front 3 rfl
theorem Hs.un2 {C2 : Ck} (h : Hs σ X (D :: C :: C2 :: R)) : Hs σ X (C :: C2 :: D :: R) := h.rot2.rot2
theorem Hs.un3 {C2 C3 : Ck} (h : Hs σ X (D :: C :: C2 :: C3 :: R)) : Hs σ X (C :: C2 :: C3 :: D :: R) := h.rot3.rot3.rot3
theorem Hs.put2 {C2 : Ck} (h : Hs σ X (C :: C2 :: Cel p cs :: R)) : Hs (σ.put p (.cells cs')) X (C :: C2 :: Cel p cs' :: R) := h.rot2.put.un2
theorem Hs.put3 {C2 C3 : Ck} (h : Hs σ X (C :: C2 :: C3 :: Cel p cs :: R)) : Hs (σ.put p (.cells cs')) X (C :: C2 :: C3 :: Cel p cs' :: R) := h.rot3.put.un3
theorem Hs.new (h : Hs σ X R) : Hs (σ.new (.cells cs)) X (Cel σ.n cs :: R) := h.more ((Chg.refl _ _).new _) ⟨rfl, new_eq_⟩ (by simp)
/-- A block that is never written again. -/
theorem Hs.freeze (h : Hs σ X (Cel p cs :: R)) : ∃ X', Ce.le X X' ∧ (∀ o v, cs[o]? = some v → X' p o = some v) ∧ Hs σ X' R := by
  obtain ⟨F, ⟨rfl, hm⟩, ha, hr⟩ := h.s
  have hp : ¬ inX X p := ha p (by simp)
  refine ⟨fun b o => if b = p then cs[o]? else X b o, fun b o v hv => ?_, fun o v hv => by simp [hv], ?_, hr.frame (fun b o v hv => ?_) (fun _ _ _ => rfl) (fun g hg => ?_)⟩
  · have : b ≠ p := by rintro rfl; exact hp ⟨o, by rw [hv]; simp⟩
    simp [this, hv]
  · intro b o v hv
    by_cases hb : b = p
    · subst hb; rw [ld_m hm]; simpa using hv
    · exact h.x _ _ _ (by simpa [hb] using hv)
  · have : b ≠ p := by rintro rfl; exact hp ⟨o, by rw [hv]; simp⟩
    simp [this, hv]
  · obtain ⟨o, ho⟩ := hg
    by_cases hb : g = p
    · exact .inl (.inr (by simp [hb]))
    · exact .inl (.inl ⟨o, by simpa [hb] using ho⟩)
/-- A block that keeps its type. -/
def CelT (t : TypeId) (p : Nat) (cs : List Value) : Ck := ⟨fun F X σ => F = [p] ∧ σ.m p = some (.typed t cs), fun ⟨h, h1⟩ _ hm => ⟨h, (hm _ (by rw [h]; simp)).trans h1⟩, fun ⟨h, h1⟩ g hg => by rw [h] at hg; simp at hg; subst hg; exact AS.lt h1⟩

/-! ### A row that grows -/
section
variable {α : Type} [Rp α] {l ms : List α} {v : Value} {a : α}
theorem OwnV.loc {n sz : Nat} {xs : List Value} (h : OwnV σ v n sz xs) (hm : ∀ g, g ∈ ownL v → σ'.m g = σ.m g) : OwnV σ' v n sz xs := by
  rcases h with h | ⟨g, c, sp, rfl, hg, r⟩
  · exact .inl h
  · exact .inr ⟨g, c, sp, rfl, (hm g (by simp [ownL])).trans hg, r⟩
def Own (v : Value) (l : List α) : Ck := ⟨fun F X σ => F = ownL v ∧ ∃ xs, OwnV σ v l.length (sz α) xs ∧ RpL X l xs, fun ⟨h, xs, h1, h2⟩ hx hm => ⟨h, xs, h1.loc (fun g hg => hm g (by rw [h]; exact hg)), h2.mono hx⟩, fun ⟨h, xs, h1, h2⟩ g hg => h1.lt (by rw [h] at hg; exact hg)⟩
theorem Hs.own (h : Hs σ X (Own v l :: R)) : ∃ x c, v = .slice x l.length c ∧ l.length ≤ c := by
  obtain ⟨_, ⟨_, xs, h1, _⟩, _⟩ := h.s
  exact h1.val
theorem Hs.own1 (h : Hs σ X (C :: Own v l :: R)) : ∃ x c, v = .slice x l.length c ∧ l.length ≤ c := h.drop.own
theorem Hs.own2 {C2 : Ck} (h : Hs σ X (C :: C2 :: Own v l :: R)) : ∃ x c, v = .slice x l.length c ∧ l.length ≤ c := h.drop.drop.own
theorem Hs.own0 (h : Hs σ X R) : Hs σ X (Own (α := α) (.slice none 0 0) [] :: R) := h.more (F := []) (Chg.refl _ _) ⟨rfl, [], OwnV.nil _ _, rfl⟩ (by simp)
/-- append of new elements out of a row that was made for it. -/
theorem apps_by {P : Program} {k : Value → AS → Prop} {t e : TypeId} {bytes m c : Nat} {news : List Value} (h : Hs σ X (Own v l :: R)) (ht : P.underlying t = some (.slice e)) (hi : infB P e (sz α) bytes = true)
    (hr : RpL X ms news) (hm : ms.length = m) (hlen : (l.length + m) * bytes ≤ 140737488355328) (hlen' : l.length + m ≤ maxLen)
    (hk : ∀ v' σ', Hs σ' X (Own v' (l ++ ms) :: R) → k v' σ') : kApp P t t v (.slice (some ⟨σ.n, 0, none⟩) m c) (σ.new (.cells news)) k := by
  have h2 := h.junk (.cells news)
  obtain ⟨F, ⟨rfl, xs, h3, h4⟩, hk2⟩ := h2.turn
  have hl := hr.len
  rw [hm] at hl
  refine app_by ht hi h3 (news := news) ?_ hr.ok hlen hlen' ?_
  · rw [ldsM new_eq_ _ 0 (by omega), List.drop_zero, List.take_of_length_le (by omega)]
  intro v' σ' ho hc hg
  refine hk v' σ' (hk2 (F' := ownL v') hc ⟨rfl, xs ++ news, by rw [List.length_append, hm]; exact ho, h4.append hr⟩ (fun g hg' => ?_))
  rcases hg g hg' with h | h
  · exact .inl h
  · exact .inr (by omega)
/-- append of one. -/
theorem push_by {P : Program} {k : Value → AS → Prop} {t e : TypeId} {bytes c : Nat} {news : List Value} (h : Hs σ X (Own v l :: R)) (ht : P.underlying t = some (.slice e)) (hi : infB P e (sz α) bytes = true)
    (hr : rp X a news) (hlen : (l.length + 1) * bytes ≤ 140737488355328) (hlen' : l.length + 1 ≤ maxLen)
    (hk : ∀ v' σ', Hs σ' X (Own v' (l ++ [a]) :: R) → k v' σ') : kApp P t t v (.slice (some ⟨σ.n, 0, none⟩) 1 c) (σ.new (.cells news)) k :=
  apps_by h ht hi (RpL.one hr) rfl hlen hlen' hk
/-- A row that is never written again. -/
theorem Hs.keep (h : Hs σ X (Own v l :: R)) : ∃ X', Ce.le X X' ∧ RepL X' v l ∧ Hs σ X' R := by
  obtain ⟨F, ⟨rfl, xs, h1, h2⟩, ha, hr⟩ := h.s
  rcases h1 with ⟨rfl, h0, _⟩ | ⟨g, cp, sp, rfl, hm, hl, hcl, hle, hcm⟩
  · have : l = [] := List.eq_nil_of_length_eq_zero h0
    subst this
    exact ⟨X, Ce.le_refl _, ⟨none, 0, rfl, Nat.le_refl _, Nat.zero_le _, .inl rfl⟩, h.drop⟩
  have hp : ¬ inX X g := ha g (by simp [ownL])
  have hle' : Ce.le X (fun b o => if b = g then (xs ++ sp)[o]? else X b o) := fun b o v hv => by
    have : b ≠ g := by rintro rfl; exact hp ⟨o, by rw [hv]; simp⟩
    simp [this, hv]
  refine ⟨fun b o => if b = g then (xs ++ sp)[o]? else X b o, hle', ⟨_, cp, rfl, hle, hcm, .inr ⟨g, 0, rfl, fun i hi => ?_⟩⟩, ?_, hr.frame hle' (fun _ _ _ => rfl) (fun b hb => ?_)⟩
  · obtain ⟨cs, h3, h4⟩ := h2.at i hi
    refine ⟨cs, Rp.mono hle' h3, fun j v hv => ?_⟩
    have := h4 j v hv
    simp only [if_true, Nat.zero_add]
    rw [List.getElem?_append_left (List.getElem?_eq_some_iff.1 this).1]
    exact this
  · intro b o v hv
    by_cases hb : b = g
    · subst hb; rw [ld_m hm]; simpa using hv
    · exact h.x _ _ _ (by simpa [hb] using hv)
  · obtain ⟨o, ho⟩ := hb
    by_cases hb : b = g
    · exact .inl (.inr (by simp [hb, ownL]))
    · exact .inl (.inl ⟨o, by simpa [hb] using ho⟩)
/-- A row of the data that stay, as they lie. -/
theorem RepL.get (h : RepL X v l) : ∃ a b o cap, v = .slice a l.length cap ∧ l.length ≤ cap ∧ cap ≤ maxLen ∧ ∀ i (hi : i < l.length), a = some ⟨b, o, none⟩ ∧ ∃ cs, rp X l[i] cs ∧ cs.length = sz α ∧ ∀ j v, cs[j]? = some v → X b (o + i * sz α + j) = some v := by
  obtain ⟨a, cap, h1, h2, h3, h4⟩ := h
  rcases h4 with rfl | ⟨b, o, h5, h6⟩
  · exact ⟨a, 0, 0, cap, h1, h2, h3, fun i hi => by simp at hi⟩
  · refine ⟨a, b, o, cap, h1, h2, h3, fun i hi => ⟨h5, ?_⟩⟩
    obtain ⟨cs, h7, h8⟩ := h6 i hi
    exact ⟨cs, h7, Rp.len h7, h8⟩
/-- What was just laid into a row. -/
theorem Hs.lit {n : Nat} {cs : List Value} (h : Hs σ X (Cel p cs :: R)) (hr : RpL X l cs) (hl : l.length = n) (hb : n ≤ maxLen) : Hs σ X (Own (.slice (some ⟨p, 0, none⟩) n n) l :: R) := by
  obtain ⟨F, ⟨rfl, hm⟩, hk⟩ := h.turn
  have hlen := hr.len
  rw [hl] at hlen
  exact hk (F' := [p]) (Chg.refl _ _) ⟨rfl, cs, .inr ⟨p, n, [], by rw [hl], by rw [List.append_nil]; exact hm, by rw [hl]; exact hlen, by rw [List.append_nil]; exact hlen, by omega, hb⟩, hr⟩ (fun g hg => .inl hg)
end
end

/-! ### Loops -/
/-- A loop whose head's states are a relation. -/
theorem loop_inv {B : (List Value → AS → Prop) → List Value → AS → Prop} {xs : List Value} {s : AS} (I : Nat → List Value → AS → Prop) (n : Nat) (h0 : I n xs s)
    (h : ∀ n xs s (again : List Value → AS → Prop), I n xs s → (∀ m xs' s', I m xs' s' → m < n → again xs' s') → B again xs s) : kLoop B xs s :=
  ⟨I, ⟨n, h0⟩, fun n xs s hi => h n xs s _ hi fun m xs' s' h' hlt => ⟨m, hlt, h'⟩⟩
end Go.Proofs.YtmgdkoidgoihfaaGreatDoor.E
