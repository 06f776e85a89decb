/- The calculus of code: what a body asks, that this is sound, what stays as it was. Conditions: none. -/
import Derived.Test.YtmgdkoidgoihfaaGreatDoorE7
import Derived.Orders
namespace Go.Proofs.YtmgdkoidgoihfaaGreatDoor.E
open Go.RowKit

structure St where
  dst : Option Nat
  grd : Option (Nat × Bool)
  ins : Ins
def trO (P : Program) (N : Nat) (ops : Array Oper) (o : Oper) : St :=
  match o.guard with
  | none => ⟨o.dst, none, trI P N o⟩
  | some (j, want) =>
    match (ops[j]?).bind (·.dst) with
    | some s => if s < N then ⟨o.dst, some (s, want), trI P N o⟩ else ⟨o.dst, none, .bad⟩
    | none => ⟨o.dst, none, .bad⟩
abbrev Post := Exit → Env → World → Prop
def thenQ (K : Env → World → Prop) (Q : Post) : Post := fun e ρ w => match e with | .normal => K ρ w | e => Q e ρ w
def blkQ (id : Nat) (Q : Post) : Post := fun e ρ w => match e with | .exit i => if i = id then Q .normal ρ w else Q (.exit i) ρ w | e => Q e ρ w
def grdP (v : Value) (want : Bool) (X Y : Prop) : Prop := match v with | .bool b => if b = want then X else Y | _ => Y
def condP (v : Value) (X Y : Prop) : Prop := match v with | .bool true => X | .bool false => Y | _ => False
theorem grdP_mono {v : Value} {want : Bool} {X Y X' Y' : Prop} (hx : X → X') (hy : Y → Y') (h : grdP v want X Y) : grdP v want X' Y' := by
  unfold grdP at *
  split at h
  · split at h
    · rename_i hc; rw [if_pos hc]; exact hx h
    · rename_i hc; rw [if_neg hc]; exact hy h
  · exact hy h
theorem condP_mono {v : Value} {X Y X' Y' : Prop} (hx : X → X') (hy : Y → Y') (h : condP v X Y) : condP v X' Y' := by
  unfold condP at *
  split at h
  · exact hx h
  · exact hy h
  · exact h.elim

def vcL (P : Program) : List St → Post → Env → World → Prop
  | [], Q, ρ, w => Q .normal ρ w
  | s :: r, Q, ρ, w =>
    match s.grd with
    | none => vcI P s.ins ρ w fun v w' => vcL P r Q (upd ρ s.dst v) w'
    | some (g, want) => grdP (ρ g) want (vcI P s.ins ρ w fun v w' => vcL P r Q (upd ρ s.dst v) w') (vcL P r Q (upd ρ s.dst undef) w)
section
variable {P : Program} {N : Nat} {ρ : Env} {w : World}

def lift (N : Nat) (Q : Post) : Exit → Act → World → Prop := fun e a w => ∃ ρ, a = act N ρ ∧ Q e ρ w

theorem vcI_mono {i : Ins} {k k' : Value → World → Prop} (hk : ∀ v w, k v w → k' v w) (h : vcI P i ρ w k) : vcI P i ρ w k' := by
  cases i
  case mov => exact hk _ _ h
  case alloc => exact hk _ _ h
  case box => exact hk _ _ h
  case mkf => exact hk _ _ h
  case mkm => exact hk _ _ h
  case bad => exact h.elim
  case chk => exact ⟨h.1, hk _ _ h.2⟩
  case chkN => exact ⟨h.1, hk _ _ h.2⟩
  case mks e sz bytes z l c =>
    replace h : mksP e sz bytes z (l.ev ρ) (c.ev ρ) w k := h
    show mksP e sz bytes z (l.ev ρ) (c.ev ρ) w k'
    unfold mksP at *
    split at h
    · exact ⟨h.1, h.2.1, h.2.2.1, h.2.2.2.1, h.2.2.2.2.1, h.2.2.2.2.2.1, hk _ _ h.2.2.2.2.2.2⟩
    · exact h.elim
  case cvBS x =>
    replace h : cvBSP w (x.ev ρ) (fun v => k v w) := h
    show cvBSP w (x.ev ρ) (fun v => k' v w)
    unfold cvBSP at *
    split at h
    · exact hk _ _ h
    · obtain ⟨l, h1, h2, h3⟩ := h; exact ⟨l, h1, h2, hk _ _ h3⟩
    · exact h.elim
  case call f as => exact Calls.mono (R := fun e w' => ∃ v, e = .returned v ∧ k v w') h fun e w' ⟨v, he, hh⟩ => ⟨v, he, hk _ _ hh⟩
  case callv x as =>
    replace h : callvP P (x.ev ρ) (argsV ρ as) w k := h
    show callvP P (x.ev ρ) (argsV ρ as) w k'
    unfold callvP at *
    split at h
    · exact ⟨h.1, Calls.mono (R := fun e w' => ∃ v, e = .returned v ∧ k v w') h.2 fun e w' ⟨v, he, hh⟩ => ⟨v, he, hk _ _ hh⟩⟩
    · obtain ⟨h1, h2, f, tmps, assign, body, h3, h4⟩ := h
      exact ⟨h1, h2, f, tmps, assign, body, h3, RoundIn.mono (R := fun e w' => ∃ v, e = .returned v ∧ k v w') h4 fun e w' ⟨v, he, hh⟩ => ⟨v, he, hk _ _ hh⟩⟩
    · exact h.elim
  case app t u x y => obtain ⟨v, w', h1, h2⟩ := h; exact ⟨v, w', h1, hk _ _ h2⟩
  case cpy t u x y => obtain ⟨v, w', h1, h2⟩ := h; exact ⟨v, w', h1, hk _ _ h2⟩
  case gen kd xs => obtain ⟨v, w', h1, h2⟩ := h; exact ⟨v, w', h1, hk _ _ h2⟩
  all_goals exact seqO_mono (fun _ hh => hk _ _ hh) h

theorem vcL_mono : ∀ {l : List St} {Q Q' : Post} {ρ : Env} {w : World}, (∀ e ρ w, Q e ρ w → Q' e ρ w) → vcL P l Q ρ w → vcL P l Q' ρ w
  | [], _, _, _, _, hq, h => hq _ _ _ h
  | s :: r, Q, Q', ρ, w, hq, h => by
    simp only [vcL] at h ⊢
    split at h
    · rename_i hg; exact vcI_mono (fun v w h => vcL_mono hq h) h
    · rename_i hg; exact grdP_mono (fun h => vcI_mono (fun v w h => vcL_mono hq h) h) (vcL_mono hq) h
theorem thenQ_mono {K K' : Env → World → Prop} {Q Q' : Post} (hk : ∀ ρ w, K ρ w → K' ρ w) (hq : ∀ e ρ w, Q e ρ w → Q' e ρ w) (e : Exit) (ρ : Env) (w : World) (h : thenQ K Q e ρ w) : thenQ K' Q' e ρ w := by
  cases e with
  | normal => exact hk _ _ h
  | _ => exact hq _ _ _ h
theorem blkQ_mono {id : Nat} {Q Q' : Post} (hq : ∀ e ρ w, Q e ρ w → Q' e ρ w) (e : Exit) (ρ : Env) (w : World) (h : blkQ id Q e ρ w) : blkQ id Q' e ρ w := by
  cases e with
  | exit i =>
    simp only [blkQ] at h ⊢
    split at h
    · rename_i hc; simp [hc]; exact hq _ _ _ h
    · rename_i hc; simp [hc]; exact hq _ _ _ h
  | _ => exact hq _ _ _ h
/-! ### Soundness -/
def boolOf : Value → Option Bool | .bool b => some b | _ => none
theorem act_yield {ops : Array Oper} {j s : Nat} (h : (ops[j]?).bind (·.dst) = some s) (hs : s < N) : yielded ops (act N ρ).tmps j = boolOf (ρ s) := by
  unfold yielded
  rw [h]
  have : (act N ρ).tmps[s]? = some (ρ s) := by simp [act, hs]
  simp only [Option.bind_some, this]
  cases ρ s <;> rfl

/-- Nothing here is kept in slot N. -/
def dOk (N : Nat) (l : List Oper) : Bool := l.all fun o => o.dst != some N
theorem trI_nd {o : Oper} {k : Value → World → Prop} (h : vcI P (trI P N o) ρ w k) : ∀ c, o.op ≠ .defer c := by
  intro c hc
  simp only [trI, hc] at h
  exact h
theorem vcL_ok {ro : Option Nat} {ops : Array Oper} {Q : Post} : ∀ {l : List Oper} {ρ : Env} {w : World}, dOk N l = true → vcL P (l.map (trO P N ops)) Q ρ w → wpListIn (fz ro) 0 P ops (lift N Q) l (act N ρ) w
  | [], ρ, w, _, h => ⟨ρ, rfl, h⟩
  | o :: r, ρ, w, hd, h => by
    simp only [dOk, List.all_cons, Bool.and_eq_true, bne_iff_ne] at hd
    have ih := fun {ρ w} h => @vcL_ok ro ops Q r ρ w hd.2 h
    have hd := hd.1
    simp only [List.map_cons, vcL] at h
    unfold wpListIn
    have run : vcI P (trI P N o) ρ w (fun v w' => vcL P (r.map (trO P N ops)) Q (upd ρ o.dst v) w') → Oper.wpIn (fz ro) 0 P o (act N ρ) w (wpListIn (fz ro) 0 P ops (lift N Q) r) (lift N Q) := by
      intro hh
      refine Goes.wp (trI_nd hh) (trI_ok (vcI_mono (fun v w' hv => ?_) hh))
      rw [act_put _ _ _ _ hd]
      exact ih hv
    cases hg : o.guard with
    | none =>
      simp only [trO, hg] at h
      rw [if_pos (by simp [Region.wanted, hg])]
      exact run h
    | some jw =>
      obtain ⟨j, want⟩ := jw
      cases hb : (ops[j]?).bind (·.dst) with
      | none => simp only [trO, hg, hb] at h; exact h.elim
      | some s =>
        by_cases hs : s < N
        · simp only [trO, hg, hb, hs, if_true] at h
          have hy := act_yield (ρ := ρ) hb hs
          have hwant : Region.wanted o (yielded ops (act N ρ).tmps) = (boolOf (ρ s) == some want) := by
            simp only [Region.wanted, hg, hy]
          rw [hwant]
          have hskip : vcL P (r.map (trO P N ops)) Q (upd ρ o.dst undef) w → wpListIn (fz ro) 0 P ops (lift N Q) r ((act N ρ).put o.dst undef) w := by
            intro hh
            rw [act_put _ _ _ _ hd]
            exact ih hh
          unfold grdP at h
          split at h
          · rename_i b hv
            split at h
            · rename_i hbw; subst hbw
              rw [if_pos (by simp [hv, boolOf])]
              exact run h
            · rename_i hbw
              rw [if_neg (by simp [hv, boolOf, hbw])]
              exact ⟨fun _ _ => trivial, hskip h⟩
          · rename_i hv
            rw [if_neg (by
              have : boolOf (ρ s) = none := by
                unfold boolOf
                split
                · rename_i b hb'; exact (hv b hb').elim
                · rfl
              simp [this])]
            exact ⟨fun _ _ => trivial, hskip h⟩
        · simp only [trO, hg, hb, hs, if_false] at h; exact h.elim

end
end Go.Proofs.YtmgdkoidgoihfaaGreatDoor.E
