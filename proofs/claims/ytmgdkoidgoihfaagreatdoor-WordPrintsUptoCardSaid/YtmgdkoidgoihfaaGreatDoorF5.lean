/- What may be forgotten of an abstract state; what only made new things. Conditions: none. -/
import Derived.Test.YtmgdkoidgoihfaaGreatDoorF4
namespace Go.Proofs.YtmgdkoidgoihfaaGreatDoor.E
open Go.RowKit

/-- σ' knows no more than σ. -/
structure Wk (σ σ' : AS) : Prop where
  n : σ'.n = σ.n
  m : ∀ g ob, σ'.m g = some ob → σ.m g = some ob
  c : ∀ b o v, σ'.c b o = some v → σ.ld b o = some v
/-- Of what was there in a nothing has turned in σ. -/
structure Gar (a σ : AS) : Prop where
  n : a.n ≤ σ.n
  m : ∀ g, g < a.n → σ.m g = a.m g
  c : σ.c = a.c
section
variable {P : Program} {a σ σ' : AS} {w : World} {k : Value → AS → Prop} {f : Nat} {args : List Value}
theorem Wk.refl (σ : AS) : Wk σ σ := ⟨rfl, fun _ _ h => h, fun _ _ _ h => ld_c h⟩
theorem Wk.sat (h : Wk σ σ') (hs : Sat σ w) : Sat σ' w := ⟨hs.sz.trans h.n.symm, fun g ob hg => hs.m g ob (h.m g ob hg), fun b o v hv => hs.ld (h.c b o v hv)⟩
theorem Wk.fol (h : Wk σ σ') : Fol σ σ' := ⟨by rw [h.n]; omega, fun g hg => by
  cases hm : σ'.m g with
  | none => exact (hg hm).elim
  | some ob => exact .inl (by rw [h.m g ob hm]; simp)⟩
theorem Wk.live (h : Wk σ σ') (g : Nat) (hg : σ'.live g) : σ.live g := by
  cases hm : σ'.m g with
  | none => exact (hg hm).elim
  | some ob => unfold AS.live; rw [h.m g ob hm]; simp
theorem kCall_wk (h : kCall P f args σ fun v σ1 => ∃ σ2, Wk σ1 σ2 ∧ k v σ2) : kCall P f args σ k := fun w hw =>
  callP_mono (h w hw) fun _ _ ⟨h1, _, h2, h3, _, h4, h5⟩ => ⟨h1, _, h4.sat h2, h3.trans h4.fol, h5⟩
theorem Lf_pre {X : World → (Value → World → Prop) → Prop} (hX : ∀ w k k', (∀ v w, k v w → k' v w) → X w k → X w k') (hk : Wk σ σ') (h : Lf X σ' k) : Lf X σ k := fun w hw =>
  hX w _ _ (fun _ _ ⟨h1, _, h2, h3, h4⟩ => ⟨(KeepP.refl _ _).step h1 (fun g hg => .inl (hk.live g hg)), _, h2, hk.fol.trans h3, h4⟩) (h w (hk.sat hw))
theorem kCall_pre (hk : Wk σ σ') (h : kCall P f args σ' k) : kCall P f args σ k := Lf_pre (fun _ _ _ h1 h2 => callP_mono h2 h1) hk h
theorem Gar.refl (a : AS) : Gar a a := ⟨Nat.le_refl _, fun _ _ => rfl, rfl⟩
theorem Gar.new (h : Gar a σ) (ob : Ob) : Gar a (σ.new ob) := ⟨by rw [new_n]; have := h.n; omega, fun g hg => by rw [new_ne (by have := h.n; omega)]; exact h.m g hg, h.c⟩
theorem Gar.up (h : Gar a σ) (j : Nat) : Gar a (σ.up j) := ⟨by rw [up_n]; have := h.n; omega, h.m, h.c⟩
theorem Gar.put (h : Gar a σ) {g : Nat} (hg : a.n ≤ g) (ob : Ob) : Gar a (σ.put g ob) := ⟨h.n, fun k hk => by rw [put_ne (by omega)]; exact h.m k hk, h.c⟩
theorem Gar.trans {b : AS} (h : Gar a b) (k : Gar b σ) : Gar a σ := ⟨Nat.le_trans h.n k.n, fun g hg => (k.m g (Nat.lt_of_lt_of_le hg h.n)).trans (h.m g hg), k.c.trans h.c⟩
theorem Gar.wk (h : Gar a σ) : Wk σ (a.up (σ.n - a.n)) := ⟨by rw [up_n]; have := h.n; omega, fun g ob hg => by
  rw [up_m] at hg
  rw [h.m g (a.lt hg)]; exact hg, fun b o v hv => by
  rw [up_c, ← h.c] at hv
  exact ld_c hv⟩
theorem AS.ext' {a b : AS} (hm : ∀ g, a.m g = b.m g) (hc : a.c = b.c) (hn : a.n = b.n) : a = b := by
  cases a; cases b
  simp only at hc hn
  obtain rfl := funext hm
  subst hc; subst hn
  congr 1
theorem put_same {g : Nat} {ob : Ob} (h : σ.m g = some ob) : σ.put g ob = σ := AS.ext' (fun k => by
  by_cases e : k = g
  · subst e; rw [put_eq, h]; rfl
  · rw [put_ne e]) rfl rfl
theorem put_comm {g h : Nat} {x y : Ob} (hn : g ≠ h) : (σ.put g x).put h y = (σ.put h y).put g x := AS.ext' (fun k => by
  by_cases e : k = g
  · subst e; rw [put_ne hn, put_eq, put_eq, put_ne hn]
  · by_cases e2 : k = h
    · subst e2; rw [put_eq, put_ne e, put_ne e, put_eq]
    · rw [put_ne e2, put_ne e, put_ne e, put_ne e2]) rfl rfl
theorem put_up {g j : Nat} {x : Ob} : (σ.put g x).up j = (σ.up j).put g x := rfl
theorem gar_end {v : Value} (hk : ∀ j, k v (a.up j)) (h : Gar a σ) : ∃ σ', Wk σ σ' ∧ k v σ' := ⟨_, h.wk, hk _⟩
end
end Go.Proofs.YtmgdkoidgoihfaaGreatDoor.E
