/- Variables in order: the sort, over states. Conditions: none. -/
import Derived.Test.YtpnefcapiiemdaaGreatDoorVaK
import Derived.Test.YtpnefcapiiemdaaGreatDoorOe
namespace Go.Proofs.YtpnefcapiiemdaaGreatDoor
open E Go.Lib
open Go.Shelf Go.RowKit Go.Sort
set_option linter.unusedVariables false
set_option linter.unusedSimpArgs false
set_option maxHeartbeats 1000000
set_option maxRecDepth 20000
section
variable {σ σ' : AS} {X : Ce} {R : List Ck} {k : Value → AS → Prop} {g cap : Nat} {sp : List Value} {l : VL} {d : List Str}
abbrev sortS (d : List Str) : List Str := d.mergeSort fun x y => !ltOf cfS y x
end
end Go.Proofs.YtpnefcapiiemdaaGreatDoor
namespace Go.Proofs.YtpnefcapiiemdaaGreatDoor
open E Go.Lib
open Go.Shelf Go.RowKit
set_option linter.unusedVariables false
set_option linter.unusedSimpArgs false
set_option maxHeartbeats 1000000
set_option maxRecDepth 20000
abbrev FV := Str × Str × Bool × Bool × Bool
abbrev fvOf (n : Str) (x : VV) : FV := (n, x.val, x.set, x.exp, x.ro)
abbrev celF (p : FV) : List Value := [.string (bs p.1), .string (bs p.2.1), .bool p.2.2.1, .bool p.2.2.2.1, .bool p.2.2.2.2]
/-- Variables stand in a row. -/
def VarR (v : Value) (L : List FV) : Ck := ⟨fun F X σ => (v = .slice none 0 0 ∧ L = [] ∧ F = []) ∨ ∃ g cap sp, v = .slice (some ⟨g, 0, none⟩) L.length cap ∧ F = [g] ∧ σ.m g = some (.cells (flat celF L sp)) ∧ L.length ≤ cap ∧ cap ≤ maxLen,
  fun h hx hm => by
    rcases h with h | ⟨g, cap, sp, h1, h2, h3, h4⟩
    · exact .inl h
    · exact .inr ⟨g, cap, sp, h1, h2, (hm g (by rw [h2]; simp)).trans h3, h4⟩,
  fun h g hg => by
    rcases h with ⟨_, _, h⟩ | ⟨b, cap, sp, h1, h2, h3, h4⟩
    · rw [h] at hg; cases hg
    · rw [h2] at hg; simp at hg; subst hg; exact AS.lt h3⟩
def FvOk (p : FV) : Prop := p.1.length ≤ maxLen ∧ p.2.1.length ≤ maxLen
section
variable {σ σ' : AS} {X : Ce} {R : List Ck} {k : Value → AS → Prop} {v : Value} {L : List FV} {g cap : Nat} {l : VL}
theorem rp_fv {p : FV} (h : FvOk p) : Rp.rp (α := FV) X p (celF p) := ⟨[_], _, rfl, ⟨rfl, h.1⟩, [_], _, rfl, ⟨rfl, h.2⟩, [_], _, rfl, rfl, [_], _, rfl, rfl, rfl⟩
theorem rp_fv_eq {p : FV} {cs : List Value} (h : Rp.rp (α := FV) X p cs) : cs = celF p := by
  obtain ⟨c1, r1, e1, ⟨f1, b1⟩, c2, r2, e2, ⟨f2, b2⟩, c3, r3, e3, f3, c4, r4, e4, f4, f5⟩ := h
  rw [e1, e2, e3, e4, f1, f2, f3, f4, f5]; rfl
theorem rpl_fv : ∀ {L : List FV} {xs : List Value}, RpL X L xs → xs = flat celF L []
  | [], xs, h => by
    have h : xs = [] := h
    rw [h]; rfl
  | p :: L, xs, h => by
    obtain ⟨x, y, rfl, h1, h2⟩ := h
    rw [rp_fv_eq h1, rpl_fv h2]
    simp [flat]
/-- A row that was made stands. -/
theorem VarR.own (h : Hs σ X (E.Own (α := FV) v L :: R)) : Hs σ X (VarR v L :: R) := by
  obtain ⟨F, ⟨rfl, xs, h1, h2⟩, hk⟩ := h.turn
  have hx := rpl_fv h2
  rcases h1 with ⟨rfl, h0, _⟩ | ⟨g, c, sp, rfl, hm, hl, hcl, hle, hcm⟩
  · have : L = [] := List.eq_nil_of_length_eq_zero h0
    subst this
    exact hk (F' := []) (Chg.refl _ _) (.inl ⟨rfl, rfl, rfl⟩) (fun g hg => by cases hg)
  · have e : xs ++ sp = flat celF L sp := by rw [hx]; simp [flat]
    rw [e] at hm
    exact hk (F' := [g]) (Chg.refl _ _) (.inr ⟨g, c, sp, rfl, rfl, hm, hle, hcm⟩) (fun g' hg => .inl (by simpa [ownL] using hg))
theorem VarR.cel (h : Hs σ X (VarR v L :: R)) : (v = .slice none 0 0 ∧ L = [] ∧ Hs σ X R) ∨ ∃ g cap sp, v = .slice (some ⟨g, 0, none⟩) L.length cap ∧ L.length ≤ cap ∧ cap ≤ maxLen ∧ Hs σ X (Cel g (flat celF L sp) :: R) := by
  obtain ⟨F, h1, hk⟩ := h.turn
  rcases h1 with ⟨h2, h3, rfl⟩ | ⟨g, cap, sp, h2, rfl, h3, h4, h5⟩
  · exact .inl ⟨h2, h3, h.drop⟩
  · exact .inr ⟨g, cap, sp, h2, h4, h5, hk (F' := [g]) (Chg.refl _ _) ⟨rfl, h3⟩ (fun g hg => .inl hg)⟩
/-- The sort of a row of variables, each as the list has it. -/
def listV (l : VL) (d : List Str) : List FV := d.map fun n => fvOf n (getV l n)
theorem keys_nodup (hk : (encL l).Pairwise fun a b => a.1 ≠ b.1) : (l.map (·.1)).Nodup := by
  unfold encL at hk
  rw [List.pairwise_map] at hk
  unfold List.Nodup
  rw [List.pairwise_map]
  exact hk
def VlOk (l : VL) : Prop := ∀ n, n ∈ l.map (·.1) → FvOk (fvOf n (getV l n))
end
end Go.Proofs.YtpnefcapiiemdaaGreatDoor
