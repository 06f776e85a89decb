/- Ranges over functions, as things that lie apart. Conditions: as each theorem says. -/
import Derived.Test.YtmgdkoidgoihfaaGreatDoorG1
namespace Go.Proofs.YtmgdkoidgoihfaaGreatDoor.E
open Go.RowKit Go.Lib
set_option linter.unusedVariables false

/-- A block that holds another object. -/
def Oth (p : Nat) (o : Go.Obj) : Ck := ⟨fun F X σ => F = [p] ∧ σ.m p = some (.other o), fun ⟨h, h1⟩ _ hm => ⟨h, (hm _ (by rw [h]; simp)).trans h1⟩, fun ⟨h, h1⟩ g hg => by rw [h] at hg; simp at hg; subst hg; exact AS.lt h1⟩
section
variable {P : Program} {σ σ' : AS} {X : Ce} {R : List Ck} {C : Ck} {p : Nat} {o o' : Go.Obj} {k : Value → AS → Prop}
theorem Hs.oth (h : Hs σ X (Oth p o :: R)) : σ.m p = some (.other o) := by obtain ⟨_, ⟨_, h⟩, _⟩ := h.s; exact h
theorem Hs.putX (h : Hs σ X (Oth p o :: R)) : Hs (σ.put p (.other o')) X (Oth p o' :: R) := by
  obtain ⟨F, ⟨rfl, hm⟩, hk⟩ := h.turn
  exact hk ((Chg.refl _ _).put (.inl (by simp)) _) ⟨rfl, by rw [put_eq, hm]; rfl⟩ (fun g hg => .inl hg)
theorem Hs.newX (h : Hs σ X R) : Hs (σ.new (.other o)) X (Oth σ.n o :: R) := h.more ((Chg.refl _ _).new _) ⟨rfl, new_eq_⟩ (by simp)
theorem rngf_by {g : FuncId} {a b : List Value} {B : List Value → AS → (AS → (AS → Prop) → Prop) → (AS → Prop) → Prop} (ho : okFn P g = true)
    (h : ∀ (o o' : Go.Obj), (∀ args s k', s.m (σ.n + 1) = some (.other o) → B args s (fun s1 k1 => s1.m (σ.n + 1) = some (.other o) ∧ k1 (s1.put (σ.n + 1) (.other o'))) (fun s2 => s2.m (σ.n + 1) = some (.other o') ∧ k' (.bool true) (s2.put (σ.n + 1) (.other o))) → kYld P (σ.n + 1) args s k') →
      kCall P g (a ++ [.func (.yield (σ.n + 1)) #[] #[]] ++ b) ((σ.new (.other (.deferred (some [])))).new (.other o)) fun _ s => s.m (σ.n + 1) = some (.other o) ∧ ∀ o2, k (.int .i64 σ.n) (s.put (σ.n + 1) (.other o2))) :
    kRng P (.func (.func g) a.toArray b.toArray) B σ k := ⟨ho, h⟩
theorem fin1 {D : Nat} {K : AS → Prop} (h : σ.m D = some (.other (.deferred (some [])))) (hk : K (σ.put D (.other (.deferred none)))) : kFin P (valsOf (consM (.int .i64 D) undef)) σ K := ⟨h, hk⟩
theorem yld_by {l : Nat} {args : List Value} (h : kYld P l args σ k) : kCallv P (.func (.yield l) #[] #[]) args σ k := ⟨rfl, rfl, h⟩
/-! ### A list of the data that stay is laid behind a row -/
variable {α : Type} [Rp α] {l ms : List α} {u v : Value}
theorem RepL.allX (h : RepL X u ms) (hx : Ce.le X σ.ld) : ∃ a cap, u = .slice a ms.length cap ∧ ms.length ≤ cap ∧ (ms = [] ∨ ∃ b o xs, a = some ⟨b, o, none⟩ ∧ ldsS σ b o (ms.length * Rp.sz α) = some xs ∧ RpL X ms xs) := by
  obtain ⟨a, b, o, cap, hv, h1, h2, hat⟩ := h.get
  refine ⟨a, cap, hv, h1, ?_⟩
  cases hms : ms with
  | nil => exact .inl rfl
  | cons m0 mr =>
    right
    obtain ⟨ha, _⟩ := hat 0 (by rw [hms]; simp)
    rw [← hms]
    refine ⟨b, o, ?_⟩
    have one : ∀ (cs : List Value) (n o : Nat), cs.length = n → (∀ j v, cs[j]? = some v → X b (o + j) = some v) → ldsS σ b o n = some cs := by
      intro cs
      induction cs with
      | nil => intro n o hn _; simp at hn; subst hn; rfl
      | cons v r ih =>
        intro n o hn hc
        simp at hn
        subst hn
        have h0 := hx _ _ _ (hc 0 v rfl)
        simp only [Nat.add_zero] at h0
        simp only [ldsS]
        rw [h0, Option.bind_some, ih r.length (o + 1) rfl (fun j u hu => by
          have := hc (j + 1) u (by simpa using hu)
          rw [show o + 1 + j = o + (j + 1) from by omega]; exact this)]
        rfl
    have key : ∀ (l : List α) (o : Nat), (∀ i (hi : i < l.length), ∃ cs, Rp.rp X l[i] cs ∧ ldsS σ b (o + i * Rp.sz α) (Rp.sz α) = some cs) → ∃ xs, ldsS σ b o (l.length * Rp.sz α) = some xs ∧ RpL X l xs := by
      intro l
      induction l with
      | nil => intro o _; exact ⟨[], by simp [ldsS], rfl⟩
      | cons a l ih =>
        intro o hh
        obtain ⟨cs, hc, hl⟩ := hh 0 (by simp)
        rw [Nat.zero_mul, Nat.add_zero] at hl
        obtain ⟨xs, hx, hr⟩ := ih (o + Rp.sz α) (fun i hi => by
          obtain ⟨cs, hc, hl⟩ := hh (i + 1) (by simpa using hi)
          exact ⟨cs, hc, by rw [show o + Rp.sz α + i * Rp.sz α = o + (i + 1) * Rp.sz α from by rw [Nat.add_mul]; omega]; exact hl⟩)
        refine ⟨cs ++ xs, ?_, cs, xs, rfl, hc, hr⟩
        rw [List.length_cons, show (l.length + 1) * Rp.sz α = Rp.sz α + l.length * Rp.sz α from by rw [Nat.add_mul]; omega]
        exact lds_add hl hx
    obtain ⟨xs, hx2, hr⟩ := key ms o (fun i hi => by
      obtain ⟨_, cs, h3, h4, h5⟩ := hat i hi
      exact ⟨cs, h3, one cs _ _ h4 h5⟩)
    exact ⟨xs, ha, hx2, hr⟩
theorem appL_by {t e : TypeId} {bytes : Nat} (h : Hs σ X (E.Own v l :: R)) (hr : RepL X u ms) (ht : P.underlying t = some (.slice e)) (hi : infB P e (Rp.sz α) bytes = true) (hlen : (l.length + ms.length) * bytes ≤ 140737488355328) (hlen' : l.length + ms.length ≤ maxLen)
    (hk : ∀ v' σ', Hs σ' X (E.Own v' (l ++ ms) :: R) → k v' σ') : kApp P t t v u σ k := by
  obtain ⟨a, cap, rfl, hcap, hms⟩ := hr.allX h.x
  obtain ⟨F, ⟨rfl, xs, h3, h4⟩, hk2⟩ := h.turn
  rcases hms with rfl | ⟨b, o, news, rfl, hn, hrl⟩
  · refine app0_by (sz := Rp.sz α) ht hi h3 ?_
    have := hk v σ (by rw [List.append_nil]; exact h)
    exact this
  · refine app_by ht hi h3 (news := news) hn hrl.ok hlen hlen' ?_
    intro v' σ' ho hc hg
    refine hk v' σ' (hk2 (F' := ownL v') hc ⟨rfl, xs ++ news, by rw [List.length_append]; exact ho, h4.append hrl⟩ (fun g hg' => ?_))
    rcases hg g hg' with h | h
    · exact .inl h
    · exact .inr (by omega)
end
end Go.Proofs.YtmgdkoidgoihfaaGreatDoor.E
