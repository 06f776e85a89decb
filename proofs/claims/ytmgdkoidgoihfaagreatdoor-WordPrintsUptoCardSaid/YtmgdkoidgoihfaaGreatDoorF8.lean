/- What cells stand for, aside of some blocks; rows of the walk's own that stand for lists of anything. Conditions: as each theorem says. -/
import Derived.Test.YtmgdkoidgoihfaaGreatDoorFD
import Derived.Test.YtmgdkoidgoihfaaGreatDoorF7
namespace Go.Proofs.YtmgdkoidgoihfaaGreatDoor.E
open Go.RowKit Go.Lib
open Rp

/-- What is known, aside of the blocks X. -/
def sans (σ : AS) (X : List Nat) : Ce := fun b o => if b ∈ X then none else σ.ld b o
section
variable {σ σ' a : AS} {S X Y : List Nat} {b o : Nat} {v : Value}
theorem ld_lt (h : σ.ld b o = some v) : b < σ.n := by
  unfold AS.ld at h
  split at h
  · rename_i l hl; exact σ.lt hl
  · cases h
  · rename_i t l hl; exact σ.lt hl
  · exact σ.ltc h
theorem Chg.ld (h : Chg S σ σ') (hv : σ.ld b o = some v) (hb : b ∉ S) : σ'.ld b o = some v := by
  have := h.m b (ld_lt hv) hb
  unfold AS.ld at hv ⊢
  rw [this, h.c]
  exact hv
theorem sans_le_ld : Ce.le (sans σ X) σ.ld := fun b o v h => by
  unfold sans at h
  split at h
  · cases h
  · exact h
theorem sans_nil : sans σ [] = σ.ld := by funext b o; simp [sans]
theorem c_le_ld : Ce.le σ.c σ.ld := fun b o v h => ld_c h
theorem Chg.sans (h : Chg S σ σ') (hX : ∀ g, g ∈ S → g ∈ X ∨ σ.n ≤ g) : Ce.le (sans σ X) (sans σ' X) := fun b o v hv => by
  unfold E.sans at hv ⊢
  split at hv
  · cases hv
  · rename_i hb
    rw [if_neg hb]
    refine h.ld hv (fun hs => ?_)
    rcases hX b hs with h1 | h1
    · exact hb h1
    · have := ld_lt hv; omega
theorem sans_more (hY : ∀ g, g ∈ Y → g ∈ X ∨ σ.n ≤ g) : Ce.le (sans σ X) (sans σ Y) := fun b o v hv => by
  unfold sans at hv ⊢
  split at hv
  · cases hv
  · rename_i hb
    rw [if_neg (fun hy => ?_)]
    · exact hv
    · rcases hY b hy with h1 | h1
      · exact hb h1
      · have := ld_lt hv; omega
theorem Chg.le (h : Chg [] σ σ') : Ce.le σ.ld σ'.ld := fun b o v hv => h.ld hv (by simp)
theorem Gar.le (h : Gar σ σ') : Ce.le σ.ld σ'.ld := h.chg.le
end

/-- These cells stand for these, one behind the other. -/
def RpL {α : Type} [Rp α] (c : Ce) : List α → List Value → Prop
  | [], xs => xs = []
  | a :: l, xs => ∃ x y, xs = x ++ y ∧ rp c a x ∧ RpL c l y
section
variable {α β : Type} [Rp α] [Rp β] {c c' : Ce} {a : α} {l m : List α} {xs ys : List Value} {σ σ' : AS} {v : Value} {X Y S : List Nat}
theorem RpL.mono (hc : Ce.le c c') : ∀ {l : List α} {xs : List Value}, RpL c l xs → RpL c' l xs
  | [], _, h => h
  | _ :: _, _, ⟨x, y, e, h, r⟩ => ⟨x, y, e, Rp.mono hc h, RpL.mono hc r⟩
theorem RpL.len : ∀ {l : List α} {xs : List Value}, RpL c l xs → xs.length = l.length * sz α
  | [], _, h => by rw [show _ = _ from h]; simp
  | _ :: l, _, ⟨x, y, e, h, r⟩ => by
    have h1 := Rp.len h
    have h2 := RpL.len r
    rw [e, List.length_append, h1, h2, List.length_cons, Nat.add_mul]; omega
theorem RpL.ok : ∀ {l : List α} {xs : List Value}, RpL c l xs → xs.all okCell = true
  | [], _, h => by rw [show _ = _ from h]; rfl
  | _ :: l, _, ⟨x, y, e, h, r⟩ => by rw [e, List.all_append, Rp.ok h, RpL.ok r]; rfl
theorem RpL.one (h : rp c a xs) : RpL c [a] xs := ⟨xs, [], by simp, h, rfl⟩
theorem RpL.append : ∀ {l : List α} {xs : List Value}, RpL c l xs → RpL c m ys → RpL c (l ++ m) (xs ++ ys)
  | [], _, h, k => by rw [show _ = _ from h]; exact k
  | _ :: l, _, ⟨x, y, e, h, r⟩, k => ⟨x, y ++ ys, by rw [e, List.append_assoc], h, r.append k⟩
theorem RpL.at : ∀ {l : List α} {xs : List Value}, RpL c l xs → ∀ i (hi : i < l.length), ∃ cs, rp c l[i] cs ∧ ∀ j v, cs[j]? = some v → xs[i * sz α + j]? = some v
  | a :: l, _, ⟨x, y, e, h, r⟩, 0, hi => ⟨x, h, fun j v hv => by
    have := (List.getElem?_eq_some_iff.1 hv).1
    rw [e, Nat.zero_mul, Nat.zero_add, List.getElem?_append_left this]; exact hv⟩
  | a :: l, _, ⟨x, y, e, h, r⟩, i + 1, hi => by
    obtain ⟨cs, h1, h2⟩ := r.at i (by simpa using hi)
    refine ⟨cs, h1, fun j v hv => ?_⟩
    have hx := Rp.len h
    rw [e, List.getElem?_append_right (by rw [hx, Nat.add_mul]; omega), show (i + 1) * sz α + j - x.length = i * sz α + j from by rw [hx, Nat.add_mul]; omega]
    exact h2 j v hv
/-- Change of one element. -/
theorem RpL.set : ∀ {l : List α} {xs : List Value}, RpL c l xs → ∀ i (_ : i < l.length), rp c a ys → RpL c (l.set i a) (xs.take (i * sz α) ++ ys ++ xs.drop (i * sz α + sz α))
  | b :: l, _, ⟨x, y, e, h, r⟩, 0, hi, hy => ⟨ys, y, by
    have hx := Rp.len h
    rw [e, Nat.zero_mul, List.take_zero, List.nil_append, Nat.zero_add, ← hx, List.drop_left], hy, r⟩
  | b :: l, _, ⟨x, y, e, h, r⟩, i + 1, hi, hy => by
    have hx := Rp.len h
    refine ⟨x, _, ?_, h, r.set i (by simpa using hi) hy⟩
    rw [e, show (i + 1) * sz α = x.length + i * sz α from by rw [hx, Nat.add_mul]; omega, List.take_length_add_append, Nat.add_assoc, List.drop_length_add_append]
    simp only [List.append_assoc]

/-- v is a slice of the walk's own that has these; what they lead to lies aside of X. -/
def OwnR (σ : AS) (X : List Nat) (v : Value) (l : List α) : Prop := ∃ xs, OwnV σ v l.length (sz α) xs ∧ RpL (sans σ X) l xs
theorem OwnR.nil : OwnR σ X (.slice none 0 0) ([] : List α) := ⟨[], OwnV.nil σ _, rfl⟩
theorem OwnR.val (h : OwnR σ X v l) : ∃ x c, v = .slice x l.length c ∧ l.length ≤ c := by
  obtain ⟨xs, h1, _⟩ := h
  exact h1.val
theorem OwnR.ok (h : OwnR σ X v l) : okCell v = true := by
  obtain ⟨xs, h1, _⟩ := h
  exact h1.ok
theorem OwnR.lt (h : OwnR σ X v l) {g : Nat} (hg : g ∈ ownL v) : g < σ.n := by
  obtain ⟨xs, h1, _⟩ := h
  exact h1.lt hg
theorem OwnR.chg (h : OwnR σ X v l) (k : Chg S σ σ') (hn : ∀ g, g ∈ ownL v → g ∉ S) (hX : ∀ g, g ∈ S → g ∈ X ∨ σ.n ≤ g) : OwnR σ' X v l := by
  obtain ⟨xs, h1, h2⟩ := h
  exact ⟨xs, h1.chg k hn, h2.mono (k.sans hX)⟩
theorem OwnR.more (h : OwnR σ X v l) (hY : ∀ g, g ∈ Y → g ∈ X ∨ σ.n ≤ g) : OwnR σ Y v l := by
  obtain ⟨xs, h1, h2⟩ := h
  exact ⟨xs, h1, h2.mono (sans_more hY)⟩
theorem OwnV.rep {n : Nat} (h : OwnV σ v n (sz α) xs) (hn : l.length = n) (h2 : RpL c l xs) (hc : Ce.le c σ.ld) : RepL σ.ld v l := by
  subst hn
  rcases h with ⟨rfl, h0, _⟩ | ⟨g, cp, sp, rfl, hm, hl, hcl, hle, hcm⟩
  · have : l = [] := List.eq_nil_of_length_eq_zero h0
    subst this
    exact ⟨none, 0, rfl, Nat.le_refl _, Nat.zero_le _, .inl rfl⟩
  · refine ⟨_, cp, rfl, hle, hcm, .inr ⟨g, 0, rfl, fun i hi => ?_⟩⟩
    obtain ⟨cs, h3, h4⟩ := h2.at i hi
    refine ⟨cs, Rp.mono hc h3, fun j v hv => ?_⟩
    have := h4 j v hv
    rw [ld_m hm, Nat.zero_add, List.getElem?_append_left (List.getElem?_eq_some_iff.1 this).1]
    exact this
theorem OwnR.rep (h : OwnR σ X v l) : RepL σ.ld v l := by
  obtain ⟨xs, h1, h2⟩ := h
  exact h1.rep rfl h2 sans_le_ld
/-- The same, seen aside of blocks that it does not lie in. -/
theorem OwnR.repX (h : OwnR σ X v l) (hn : ∀ g, g ∈ ownL v → g ∉ X) : RepL (sans σ X) v l := by
  obtain ⟨xs, h1, h2⟩ := h
  rcases h1 with ⟨rfl, h0, _⟩ | ⟨g, cp, sp, rfl, hm, hl, hcl, hle, hcm⟩
  · have : l = [] := List.eq_nil_of_length_eq_zero h0
    subst this
    exact ⟨none, 0, rfl, Nat.le_refl _, Nat.zero_le _, .inl rfl⟩
  · refine ⟨_, cp, rfl, hle, hcm, .inr ⟨g, 0, rfl, fun i hi => ?_⟩⟩
    obtain ⟨cs, h3, h4⟩ := h2.at i hi
    refine ⟨cs, h3, fun j v hv => ?_⟩
    have := h4 j v hv
    unfold sans
    rw [if_neg (hn g (by simp [ownL])), ld_m hm, Nat.zero_add, List.getElem?_append_left (List.getElem?_eq_some_iff.1 this).1]
    exact this
/-- append of elements whose cells are known. -/
theorem appR_by {P : Program} {k : Value → AS → Prop} {t e : TypeId} {bytes m c b o : Nat} {ms : List α} {news : List Value} (ht : P.underlying t = some (.slice e)) (hi : infB P e (sz α) bytes = true) (hown : OwnR σ X v l)
    (hX : ∀ g, g ∈ ownL v → g ∈ X) (hn : ldsS σ b o (m * sz α) = some news) (hr : RpL (sans σ X) ms news) (hm : ms.length = m) (hlen : (l.length + m) * bytes ≤ 140737488355328) (hlen' : l.length + m ≤ maxLen)
    (hk : ∀ v' σ', OwnR σ' X v' (l ++ ms) → Chg (ownL v) σ σ' → (∀ g, g ∈ ownL v' → g ∈ ownL v ∨ g = σ.n) → k v' σ') : kApp P t t v (.slice (some ⟨b, o, none⟩) m c) σ k := by
  obtain ⟨xs, h1, h2⟩ := hown
  refine app_by ht hi h1 hn hr.ok hlen hlen' ?_
  intro v' σ' ho hc hg
  refine hk v' σ' ⟨xs ++ news, by rw [List.length_append, hm]; exact ho, ?_⟩ hc hg
  have hle : Ce.le (sans σ X) (sans σ' X) := hc.sans (fun g hg => .inl (hX g hg))
  exact (h2.mono hle).append (hr.mono hle)

/-- append of nothing. -/
theorem app0_by {P : Program} {k : Value → AS → Prop} {t e : TypeId} {sz bytes n c : Nat} {a : Option Addr} (ht : P.underlying t = some (.slice e)) (hi : infB P e sz bytes = true) (hown : OwnV σ v n sz xs) (hk : k v σ) : kApp P t t v (.slice a 0 c) σ k := by
  obtain ⟨i, z, hi1, _⟩ := infB_ok hi
  intro w hw
  refine ⟨v, w, ?_, KeepP.refl _ _, σ, hw, Fol.refl _, hk⟩
  have hf : (Builtin.firstCells i.size 0 (.slice a 0 c)).run P w = .ok #[] w := by
    cases a with
    | none => rfl
    | some a => simp [Builtin.firstCells, loadCells, loadCellsFrom]
  rcases hown with ⟨rfl, rfl, rfl⟩ | ⟨g, cap, sp, rfl, hm, hl, hcl, hnc, hcm⟩
  · simp [Builtin.append_, run_underlying ht, sizeOf, typeInfo, hi1, Builtin.lenOf, hf]
  · simp [Builtin.append_, run_underlying ht, sizeOf, typeInfo, hi1, Builtin.lenOf, hf, hnc, storeCells]
theorem callv_by {P : Program} {f : FuncId} {a b args : List Value} {k : Value → AS → Prop} (ho : okFn P f = true) (h : kCall P f (a ++ args ++ b) σ k) : kCallv P (.func (.func f) a.toArray b.toArray) args σ k := by
  rw [w_callv f a b args ho]; exact h
/-! ### Reading -/
theorem RepL.val (h : RepL c v l) : ∃ a cap, v = .slice a l.length cap ∧ l.length ≤ cap ∧ cap ≤ maxLen := by
  obtain ⟨a, cap, h1, h2, h3, _⟩ := h
  exact ⟨a, cap, h1, h2, h3⟩
/-- Where element i lies, what its cells are. -/
theorem RepL.at (h : RepL σ.ld v l) : ∃ b o cap, (v = .slice (some ⟨b, o, none⟩) l.length cap ∨ (l = [] ∧ ∃ a, v = .slice a 0 cap)) ∧ l.length ≤ cap ∧ cap ≤ maxLen ∧ ∀ i (hi : i < l.length), ∃ cs, rp σ.ld l[i] cs ∧ cs.length = sz α ∧ ldsS σ b (o + i * sz α) (sz α) = some cs ∧ ∀ j v, cs[j]? = some v → σ.ld b (o + i * sz α + j) = some v := by
  obtain ⟨a, cap, h1, h2, h3, h4⟩ := h
  rcases h4 with rfl | ⟨b, o, rfl, hr⟩
  · exact ⟨0, 0, cap, .inr ⟨rfl, a, h1⟩, h2, h3, fun i hi => by simp at hi⟩
  · refine ⟨b, o, cap, .inl h1, h2, h3, fun i hi => ?_⟩
    obtain ⟨cs, h5, h6⟩ := hr i hi
    have hl := Rp.len h5
    refine ⟨cs, h5, hl, ?_, h6⟩
    have key : ∀ (cs : List Value) (n o : Nat), cs.length = n → (∀ j v, cs[j]? = some v → σ.ld b (o + j) = some v) → ldsS σ b o n = some cs := by
      intro cs
      induction cs with
      | nil => intro n o hn _; simp at hn; subst hn; rfl
      | cons v r ih =>
        intro n o hn hc
        simp at hn
        subst hn
        have h0 := hc 0 v rfl
        simp only [Nat.add_zero] at h0
        simp only [ldsS]
        rw [h0, Option.bind_some, ih r.length (o + 1) rfl (fun j u hu => by
          have := hc (j + 1) u (by simpa using hu)
          rw [show o + 1 + j = o + (j + 1) from by omega]; exact this)]
        rfl
    exact key cs _ _ hl h6
theorem lds_add {b : Nat} : ∀ {n o m : Nat} {x y : List Value}, ldsS σ b o n = some x → ldsS σ b (o + n) m = some y → ldsS σ b o (n + m) = some (x ++ y)
  | 0, o, m, x, y, h, k => by
    injection h with h; subst h
    rw [Nat.zero_add]; exact k
  | n + 1, o, m, x, y, h, k => by
    simp only [ldsS, Option.bind_eq_some_iff, Option.map_eq_some_iff] at h
    obtain ⟨v, hv, r, hr, rfl⟩ := h
    rw [show n + 1 + m = (n + m) + 1 from by omega]
    simp only [ldsS, hv, Option.bind_some]
    rw [lds_add hr (by rw [show o + 1 + n = o + (n + 1) from by omega]; exact k)]
    rfl
/-- All cells of a list. -/
theorem RepL.all (h : RepL σ.ld v l) : ∃ a cap, v = .slice a l.length cap ∧ l.length ≤ cap ∧ (l = [] ∨ ∃ b o xs, a = some ⟨b, o, none⟩ ∧ ldsS σ b o (l.length * sz α) = some xs ∧ RpL σ.ld l xs) := by
  obtain ⟨b, o, cap, hv, h1, h2, hat⟩ := h.at
  rcases hv with rfl | ⟨rfl, a, rfl⟩
  · refine ⟨_, cap, rfl, h1, .inr ⟨b, o, ?_⟩⟩
    have key : ∀ (l : List α) (o : Nat), (∀ i (hi : i < l.length), ∃ cs, rp σ.ld l[i] cs ∧ ldsS σ b (o + i * sz α) (sz α) = some cs) → ∃ xs, ldsS σ b o (l.length * sz α) = some xs ∧ RpL σ.ld l xs := by
      intro l
      induction l with
      | nil => intro o _; exact ⟨[], by simp [ldsS], rfl⟩
      | cons a l ih =>
        intro o hh
        obtain ⟨cs, hc, hl⟩ := hh 0 (by simp)
        rw [Nat.zero_mul, Nat.add_zero] at hl
        obtain ⟨xs, hx, hr⟩ := ih (o + sz α) (fun i hi => by
          obtain ⟨cs, hc, hl⟩ := hh (i + 1) (by simpa using hi)
          exact ⟨cs, hc, by rw [show o + sz α + i * sz α = o + (i + 1) * sz α from by rw [Nat.add_mul]; omega]; exact hl⟩)
        refine ⟨cs ++ xs, ?_, cs, xs, rfl, hc, hr⟩
        rw [List.length_cons, show (l.length + 1) * sz α = sz α + l.length * sz α from by rw [Nat.add_mul]; omega]
        exact lds_add hl hx
    obtain ⟨xs, hx, hr⟩ := key l o (fun i hi => by
      obtain ⟨cs, h3, _, h4, _⟩ := hat i hi
      exact ⟨cs, h3, h4⟩)
    exact ⟨xs, rfl, hx, hr⟩
  · exact ⟨a, cap, rfl, h1, .inl rfl⟩
theorem RepL.off {b o n cp : Nat} (h : RepL (sans σ X) (.slice (some ⟨b, o, none⟩) n cp) l) (hl : 0 < l.length) : b ∉ X := by
  obtain ⟨a, cap, hv, _, _, h4⟩ := h
  injection hv with hv _ _
  rcases h4 with rfl | ⟨b', o', rfl, hr⟩
  · simp at hl
  · injection hv with hv
    injection hv with h1 h2 _
    subst h1
    obtain ⟨cs, hc, hx⟩ := hr 0 hl
    have hcl := Rp.len hc
    have hp := Rp.pos (α := α)
    have := hx 0 cs[0] (by rw [List.getElem?_eq_getElem (by omega)])
    unfold sans at this
    intro hb
    rw [if_pos hb] at this
    cases this
end
end Go.Proofs.YtmgdkoidgoihfaaGreatDoor.E
