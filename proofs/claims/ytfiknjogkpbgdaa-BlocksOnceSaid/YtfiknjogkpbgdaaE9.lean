/- The calculus of code is sound; what a piece of code does not write stays; loops; functions. Conditions: none. -/
import Derived.Test.YtfiknjogkpbgdaaE8
import Derived.Deep.LoopGhost
namespace Go.Proofs.Ytfiknjogkpbgdaa.E
open Go.RowKit

section
variable {P : Program} {N : Nat} {ρ : Env} {w : World}

theorem vcQ_ok {ops : Array Oper} {C : World → Prop} {K : Env → Prop} {w0 : World} (hw0 : C w0) : ∀ {l : List Oper} {ρ : Env}, vcQ P C (l.map (trO P N ops)) K ρ → wpQuiet P ops C (fun a => ∃ ρ, a = act N ρ ∧ K ρ) l (act N ρ)
  | [], ρ, h => ⟨ρ, rfl, h⟩
  | o :: r, ρ, h => by
    have ih := @vcQ_ok ops C K w0 hw0 r
    simp only [List.map_cons, vcQ] at h
    unfold wpQuiet
    have run : (∃ v, (∀ w, C w → vcI P (trI P N o) ρ w fun u w' => u = v ∧ (if isCall (trI P N o) then C w' else w' = w)) ∧ vcQ P C (r.map (trO P N ops)) K (upd ρ o.dst v)) →
        Oper.quiet P o (act N ρ) C (wpQuiet P ops C (fun a => ∃ ρ, a = act N ρ ∧ K ρ) r) := by
      rintro ⟨v, h1, h2⟩
      refine ⟨v, fun w hw => ?_, ?_⟩
      · have h3 := h1 w hw
        unfold Oper.quietAt
        cases hcl : isCall (trI P N o) with
        | true =>
          rw [hcl] at h3
          simp only [if_true] at h3
          exact quietUpon_call (trI_ok h3) (call_enter hcl h3)
        | false =>
          rw [hcl] at h3
          simp only [Bool.false_eq_true, if_false] at h3
          exact quietUpon_of hw (trI_ok h3)
      · rw [act_put]
        exact ih h2
    cases hg : o.guard with
    | none =>
      simp only [trO, hg] at h
      rw [if_pos (by simp [Region.wanted, hg])]
      exact run h
    | some jw =>
      obtain ⟨j, want⟩ := jw
      cases hb : (ops[j]?).bind (·.dst) with
      | none =>
        simp only [trO, hg, hb] at h
        obtain ⟨v, h1, h2⟩ := h
        exact (h1 w0 hw0).elim
      | some s =>
        by_cases hs : s < N
        · simp only [trO, hg, hb, hs, if_true] at h
          have hy := act_yield (ρ := ρ) hb hs
          have hwant : Region.wanted o (yielded ops (act N ρ).tmps) = (boolOf (ρ s) == some want) := by
            simp only [Region.wanted, hg, hy]
          rw [hwant]
          have hskip : vcQ P C (r.map (trO P N ops)) K (upd ρ o.dst undef) → wpQuiet P ops C (fun a => ∃ ρ, a = act N ρ ∧ K ρ) r ((act N ρ).put o.dst undef) := by
            intro hh
            rw [act_put]
            exact ih hh
          unfold grdP at h
          split at h
          · rename_i b hv
            split at h
            · rename_i hbw; subst hbw
              rw [if_pos (by simp [hv, boolOf])]
              exact run h
            · rename_i hbw
              rw [if_neg (by simp [hv, boolOf, hbw])]
              exact hskip h
          · rename_i hv
            rw [if_neg (by
              have : boolOf (ρ s) = none := by
                unfold boolOf
                split
                · rename_i b hb'; exact (hv b hb').elim
                · rfl
              simp [this])]
            exact hskip h
        · simp only [trO, hg, hb, hs, if_false] at h
          obtain ⟨v, h1, h2⟩ := h
          exact (h1 w0 hw0).elim

theorem dops_quiet {ops : Array Oper} {C : World → Prop} {K : Env → Prop} {w : World} (hC : ∀ w', C w' → ∃ n, w' = w.drewN n) : ∀ {l : List St} {ρ : Env}, l.all (fun s => ro s.ins) = true → vcL P l (fun _ ρ' _ => K ρ') ρ w → vcQ P C l K ρ
  | [], ρ, _, h => h
  | s :: r, ρ, ha, h => by
    simp only [List.all_cons, Bool.and_eq_true] at ha
    have ih := fun {ρ} hh => @dops_quiet ops C K w hC r ρ ha.2 hh
    have one : (vcI P s.ins ρ w fun v w' => vcL P r (fun _ ρ' _ => K ρ') (upd ρ s.dst v) w') → ∃ v, (∀ w, C w → vcI P s.ins ρ w fun u w' => u = v ∧ (if isCall s.ins then C w' else w' = w)) ∧ vcQ P C r K (upd ρ s.dst v) := by
      intro hh
      have hw : vcI P s.ins ρ w fun v w' => vcL P r (fun _ ρ' _ => K ρ') (upd ρ s.dst v) w' := hh
      obtain ⟨v, hk, hall⟩ := ro_val ha.1 hw
      refine ⟨v, fun w1 hw1 => ?_, ih hk⟩
      obtain ⟨n, rfl⟩ := hC w1 hw1
      refine vcI_mono (fun u w' hu => ⟨hu.1, ?_⟩) (hall n)
      have : isCall s.ins = false := by
        have := ha.1
        cases hi : s.ins <;> rw [hi] at this <;> first | rfl | cases this
      rw [this]
      exact hu.2
    simp only [vcL] at h
    simp only [vcQ]
    split at h
    · exact one h
    · exact grdP_mono one ih h

theorem lift_then {K : Env → World → Prop} {Q : Post} {X : Act → World → Prop} {Y : Exit → Act → World → Prop} (hk : ∀ ρ w, K ρ w → X (act N ρ) w) (hq : ∀ e ρ w, Q e ρ w → Y e (act N ρ) w)
    (e : Exit) (a : Act) (w : World) (h : lift N (thenQ K Q) e a w) : Exit.then X Y e a w := by
  obtain ⟨ρ, rfl, h⟩ := h
  cases e with
  | normal => exact hk _ _ h
  | _ => exact hq _ _ _ h

theorem vcS_ok : ∀ {c : Code} {Q : Post} {ρ : Env} {w : World}, vcS P (trS P N c) Q ρ w → Code.wp P c (lift N Q) (act N ρ) w := by
  intro c
  induction c with
  | skip => intro Q ρ w h; exact wp_skip ⟨ρ, rfl, h⟩
  | region id ops draw =>
    intro Q ρ w h
    cases draw with
    | false => exact wp_region_list (vcL_ok h)
    | true =>
      simp only [trS] at h
      split at h
      · rename_i hc
        simp only [Bool.and_eq_true] at hc
        obtain ⟨hm, hB⟩ := hc
        split at h
        · rename_i hall
          replace h : vcL P (ops.toList.map (trO P N ops)) (fun e ρ' _ => ∀ n, Q e ρ' (w.drewN n)) ρ w := h
          have h1 : vcL P (ops.toList.map (trO P N ops)) (fun _ ρ' _ => ∀ n, Q .normal ρ' (w.drewN n)) ρ w := by
            have key : ∀ (l : List St) (ρ : Env), vcL P l (fun e ρ' _ => ∀ n, Q e ρ' (w.drewN n)) ρ w → l.all (fun s => ro s.ins) = true → vcL P l (fun _ ρ' _ => ∀ n, Q .normal ρ' (w.drewN n)) ρ w := by
              intro l
              induction l with
              | nil => intro ρ h _; exact h
              | cons s r ih =>
                intro ρ h ha
                simp only [List.all_cons, Bool.and_eq_true] at ha
                simp only [vcL] at h ⊢
                have one : (vcI P s.ins ρ w fun v w' => vcL P r (fun e ρ' _ => ∀ n, Q e ρ' (w.drewN n)) (upd ρ s.dst v) w') → (vcI P s.ins ρ w fun v w' => vcL P r (fun _ ρ' _ => ∀ n, Q .normal ρ' (w.drewN n)) (upd ρ s.dst v) w') := by
                  intro hh
                  obtain ⟨v, hk, hv⟩ := ro_val ha.1 hh
                  have h0 := hv 0
                  refine vcI_mono (fun u w' hu => ?_) h0
                  obtain ⟨rfl, rfl⟩ := hu
                  exact ih _ hk ha.2
                split at h
                · exact one h
                · exact grdP_mono one (fun hh => ih _ hh ha.2) h
            exact key _ _ h hall
          have hC : (fun w' => ∃ n, w' = w.drewN n) { w with drawn := w.drawn + 1 } := ⟨1, rfl⟩
          refine wp_region_quiet (C := fun w' => ∃ n, w' = w.drewN n) hm hB hC ?_
          have h2 := vcQ_ok (N := N) (ops := ops) (C := fun w' => ∃ n, w' = w.drewN n) hC (dops_quiet (ops := ops) (fun w' h => h) hall h1)
          have mono : ∀ (l : List Oper) (a : Act) (K K' : Act → Prop), (∀ a, K a → K' a) → wpQuiet P ops (fun w' => ∃ n, w' = w.drewN n) K l a → wpQuiet P ops (fun w' => ∃ n, w' = w.drewN n) K' l a := by
            intro l
            induction l with
            | nil => intro a K K' hk h; exact hk _ h
            | cons o r ih =>
              intro a K K' hk h
              unfold wpQuiet at h ⊢
              split at h
              · rename_i hw; rw [if_pos hw]; exact Oper.quiet_mono (fun a h => ih a K K' hk h) h
              · rename_i hw; rw [if_neg hw]; exact ih _ K K' hk h
          refine mono _ _ _ _ ?_ h2
          rintro a ⟨ρ', rfl, hq⟩ w' ⟨n, rfl⟩
          exact ⟨ρ', rfl, hq n⟩
        · obtain ⟨C, hC, h⟩ := h
          refine wp_region_quiet (C := C) hm hB hC ?_
          have h2 := vcQ_ok (N := N) (ops := ops) (C := C) hC h
          have mono : ∀ (l : List Oper) (a : Act) (K K' : Act → Prop), (∀ a, K a → K' a) → wpQuiet P ops C K l a → wpQuiet P ops C K' l a := by
            intro l
            induction l with
            | nil => intro a K K' hk h; exact hk _ h
            | cons o r ih =>
              intro a K K' hk h
              unfold wpQuiet at h ⊢
              split at h
              · rename_i hw; rw [if_pos hw]; exact Oper.quiet_mono (fun a h => ih a K K' hk h) h
              · rename_i hw; rw [if_neg hw]; exact ih _ K K' hk h
          refine mono _ _ _ _ ?_ h2
          rintro a ⟨ρ', rfl, hq⟩ w' hw'
          exact ⟨ρ', rfl, hq w' hw'⟩
      · exact h.elim
  | seq a b iha ihb =>
    intro Q ρ w h
    refine wp_seq (wp_mono (iha h) ?_)
    exact lift_then (fun ρ w h => ihb h) (fun e ρ w h => ⟨ρ, rfl, h⟩)
  | cond c a b iha ihb =>
    intro Q ρ w h
    simp only [trS] at h
    split at h
    · rename_i x hx
      replace h : condP (x.ev ρ) (vcS P (trS P N a) Q ρ w) (vcS P (trS P N b) Q ρ w) := h
      unfold condP at h
      split at h
      · rename_i hv; exact wp_cond_true (by rw [trA_ev hx, hv]) (iha h)
      · rename_i hv; exact wp_cond_false (by rw [trA_ev hx, hv]) (ihb h)
      · exact h.elim
    · exact h.elim
  | block id a ih =>
    intro Q ρ w h
    refine wp_block (wp_mono (ih h) ?_)
    rintro e _ w' ⟨ρ', rfl, hq⟩
    cases e with
    | exit i =>
      simp only [blkQ, Exit.inBlock] at hq ⊢
      split at hq
      · rename_i hc; rw [if_pos hc]; exact ⟨ρ', rfl, hq⟩
      · rename_i hc; rw [if_neg hc]; exact ⟨ρ', rfl, hq⟩
    | _ => exact ⟨ρ', rfl, hq⟩
  | loop a ih =>
    intro Q ρ w h
    obtain ⟨I, μ, h0, hr⟩ := h
    refine wp_loop_ghost (fun n a w => ∃ ρ, a = act N ρ ∧ I ρ w ∧ μ ρ w = n) (μ ρ w) ⟨ρ, rfl, h0, rfl⟩ ?_
    rintro n _ w ⟨ρ, rfl, hi, rfl⟩
    refine wp_mono (ih (hr ρ w hi)) ?_
    exact lift_then (fun ρ' w' h => ⟨μ ρ' w', h.2, ρ', rfl, h.1, rfl⟩) (fun e ρ' w' h => ⟨ρ', rfl, h⟩)
  | exit id => intro Q ρ w h; exact wp_exit ⟨ρ, rfl, h⟩
  | ret => intro Q ρ w h; exact wp_ret ⟨ρ, rfl, h⟩
  | rangeFunc => intro Q ρ w h; exact h.elim
  | scope => intro Q ρ w h; exact h.elim
  | label => intro Q ρ w h; exact h.elim
  | goto => intro Q ρ w h; exact h.elim
  | refuse => intro Q ρ w h; exact h.elim

/-! ### What a piece of code writes -/
def wrL : List St → List Nat
  | [] => []
  | s :: r => (match s.dst with | some d => [d] | none => []) ++ wrL r
def wrS : S → List Nat
  | .ops l | .dops l | .dcall l => wrL l
  | .seq a b => wrS a ++ wrS b
  | .cond _ a b => wrS a ++ wrS b
  | .blk _ a => wrS a
  | .loop a => wrS a
  | _ => []
def Off (W : List Nat) (ρ ρ' : Env) : Prop := ∀ i, i ∉ W → ρ' i = ρ i
theorem Off.refl (W : List Nat) (ρ : Env) : Off W ρ ρ := fun _ _ => rfl
theorem Off.trans {W : List Nat} {a b c : Env} (h : Off W a b) (k : Off W b c) : Off W a c := fun i hi => (k i hi).trans (h i hi)
theorem Off.mono {W W' : List Nat} {a b : Env} (h : Off W a b) (hs : ∀ i, i ∈ W → i ∈ W') : Off W' a b := fun i hi => h i (fun hw => hi (hs i hw))
theorem Off.upd (ρ : Env) (d : Option Nat) (v : Value) : Off (match d with | some d => [d] | none => []) ρ (upd ρ d v) := by
  intro i hi
  cases d with
  | none => rfl
  | some d =>
    simp only [List.mem_singleton] at hi
    simp [E.upd, up, hi]

theorem vcL_off : ∀ {l : List St} {Q : Post} {ρ : Env} {w : World}, vcL P l Q ρ w → vcL P l (fun e ρ' w' => Q e ρ' w' ∧ Off (wrL l) ρ ρ') ρ w
  | [], Q, ρ, w, h => ⟨h, Off.refl _ _⟩
  | s :: r, Q, ρ, w, h => by
    have step : ∀ (v : Value) (w' : World), vcL P r Q (E.upd ρ s.dst v) w' → vcL P r (fun e ρ' w' => Q e ρ' w' ∧ Off (wrL (s :: r)) ρ ρ') (E.upd ρ s.dst v) w' := by
      intro v w' hh
      refine vcL_mono (fun e ρ' w'' h => ⟨h.1, ?_⟩) (vcL_off hh)
      refine Off.trans ((Off.upd ρ s.dst v).mono ?_) (h.2.mono ?_)
      · intro i hi; simp only [wrL, List.mem_append]; exact .inl hi
      · intro i hi; simp only [wrL, List.mem_append]; exact .inr hi
    simp only [vcL] at h ⊢
    split at h
    · exact vcI_mono step h
    · exact grdP_mono (fun h => vcI_mono step h) (step _ _) h
theorem vcQ_off {C : World → Prop} : ∀ {l : List St} {K : Env → Prop} {ρ : Env}, vcQ P C l K ρ → vcQ P C l (fun ρ' => K ρ' ∧ Off (wrL l) ρ ρ') ρ
  | [], K, ρ, h => ⟨h, Off.refl _ _⟩
  | s :: r, K, ρ, h => by
    have step : ∀ (v : Value), vcQ P C r K (E.upd ρ s.dst v) → vcQ P C r (fun ρ' => K ρ' ∧ Off (wrL (s :: r)) ρ ρ') (E.upd ρ s.dst v) := by
      intro v hh
      refine vcQ_mono (fun ρ' h => ⟨h.1, ?_⟩) (vcQ_off hh)
      refine Off.trans ((Off.upd ρ s.dst v).mono ?_) (h.2.mono ?_)
      · intro i hi; simp only [wrL, List.mem_append]; exact .inl hi
      · intro i hi; simp only [wrL, List.mem_append]; exact .inr hi
    simp only [vcQ] at h ⊢
    split at h
    · obtain ⟨v, h1, h2⟩ := h; exact ⟨v, h1, step v h2⟩
    · exact grdP_mono (fun ⟨v, h1, h2⟩ => ⟨v, h1, step v h2⟩) (step _) h

theorem vcS_off : ∀ {s : S} {Q : Post} {ρ : Env} {w : World}, vcS P s Q ρ w → vcS P s (fun e ρ' w' => Q e ρ' w' ∧ Off (wrS s) ρ ρ') ρ w := by
  intro s
  induction s with
  | skip => intro Q ρ w h; exact ⟨h, Off.refl _ _⟩
  | ops l => intro Q ρ w h; exact vcL_off h
  | dops l => intro Q ρ w h; exact vcL_mono (fun e ρ' w' h n => ⟨h.1 n, h.2⟩) (vcL_off (Q := fun e ρ' _ => ∀ n, Q e ρ' (w.drewN n)) h)
  | dcall l => intro Q ρ w h; obtain ⟨C, h1, h2⟩ := h; exact ⟨C, h1, vcQ_mono (fun ρ' h w' hw => ⟨h.1 w' hw, h.2⟩) (vcQ_off h2)⟩
  | seq a b iha ihb =>
    intro Q ρ w h
    show vcS P a _ ρ w
    refine vcS_mono ?_ (iha h)
    intro e ρ' w' ⟨h, ho⟩
    cases e with
    | normal =>
      refine vcS_mono ?_ (ihb h)
      intro e ρ'' w'' ⟨h2, ho2⟩
      exact ⟨h2, Off.trans (ho.mono (by intro i hi; simp only [wrS, List.mem_append]; exact .inl hi)) (ho2.mono (by intro i hi; simp only [wrS, List.mem_append]; exact .inr hi))⟩
    | _ => exact ⟨h, ho.mono (by intro i hi; simp only [wrS, List.mem_append]; exact .inl hi)⟩
  | cond c a b iha ihb =>
    intro Q ρ w h
    refine condP_mono (fun h => ?_) (fun h => ?_) h
    · exact vcS_mono (fun e ρ' w' h => ⟨h.1, h.2.mono (by intro i hi; simp only [wrS, List.mem_append]; exact .inl hi)⟩) (iha h)
    · exact vcS_mono (fun e ρ' w' h => ⟨h.1, h.2.mono (by intro i hi; simp only [wrS, List.mem_append]; exact .inr hi)⟩) (ihb h)
  | blk id a ih =>
    intro Q ρ w h
    show vcS P a _ ρ w
    refine vcS_mono ?_ (ih h)
    intro e ρ' w' ⟨h, ho⟩
    cases e with
    | exit i =>
      simp only [blkQ] at h ⊢
      split at h
      · rename_i hc; rw [if_pos hc]; exact ⟨h, ho⟩
      · rename_i hc; rw [if_neg hc]; exact ⟨h, ho⟩
    | _ => exact ⟨h, ho⟩
  | loop a ih =>
    intro Q ρ w h
    obtain ⟨I, μ, h0, hr⟩ := h
    refine ⟨fun ρ' w' => I ρ' w' ∧ Off (wrS a) ρ ρ', μ, ⟨h0, Off.refl _ _⟩, ?_⟩
    intro ρ1 w1 ⟨hi, ho⟩
    refine vcS_mono ?_ (ih (hr ρ1 w1 hi))
    intro e ρ2 w2 ⟨h, ho2⟩
    cases e with
    | normal => exact ⟨⟨h.1, Off.trans ho ho2⟩, h.2⟩
    | _ => exact ⟨h, Off.trans ho ho2⟩
  | exit id => intro Q ρ w h; exact ⟨h, Off.refl _ _⟩
  | ret => intro Q ρ w h; exact ⟨h, Off.refl _ _⟩
  | bad => intro Q ρ w h; exact h

/-- Is a number within one of some ranges? -/
def inR : List (Nat × Nat) → Nat → Bool
  | [], _ => false
  | (a, b) :: r, i => if i < a then inR r i else if i ≤ b then true else inR r i
/-- Slots of W as in ρ', all others as in ρ. -/
def pat (W : List (Nat × Nat)) (ρ ρ' : Env) : Env := fun i => if inR W i then ρ' i else ρ i
theorem pat_at (W : List (Nat × Nat)) (ρ ρ' : Env) (i : Nat) : pat W ρ ρ' i = if inR W i then ρ' i else ρ i := rfl
def OffR (W : List (Nat × Nat)) (ρ ρ' : Env) : Prop := ∀ i, inR W i = false → ρ' i = ρ i
theorem OffR.pat {W : List (Nat × Nat)} {ρ ρ' : Env} (h : OffR W ρ ρ') : ρ' = pat W ρ ρ' := by
  funext i
  unfold E.pat
  split
  · rfl
  · rename_i hi
    exact h i (by simpa using hi)
theorem OffR.of_pat (W : List (Nat × Nat)) (ρ ρ' : Env) : OffR W ρ (E.pat W ρ ρ') := by
  intro i hi
  unfold E.pat
  rw [if_neg (by simp [hi])]
theorem OffR.refl (W : List (Nat × Nat)) (ρ : Env) : OffR W ρ ρ := fun _ _ => rfl
theorem OffR.trans {W : List (Nat × Nat)} {a b c : Env} (h : OffR W a b) (k : OffR W b c) : OffR W a c := fun i hi => (k i hi).trans (h i hi)
theorem OffR.of_off {W : List (Nat × Nat)} {l : List Nat} {ρ ρ' : Env} (hW : l.all (inR W ·) = true) (h : Off l ρ ρ') : OffR W ρ ρ' := by
  intro i hi
  refine h i (fun hm => ?_)
  have := List.all_eq_true.1 hW i hm
  rw [hi] at this
  cases this

/-- A loop: W holds the slots that its body writes. -/
theorem vc_loop {a : S} {Q : Post} (W : List (Nat × Nat)) (I : Env → World → Prop) (μ : Env → World → Nat) (hW : (wrS a).all (inR W ·) = true) (h0 : I ρ w)
    (hr : ∀ ρ' w', I (pat W ρ ρ') w' → vcS P a (thenQ (fun ρ'' w'' => I ρ'' w'' ∧ μ ρ'' w'' < μ (pat W ρ ρ') w') Q) (pat W ρ ρ') w') : vcS P (.loop a) Q ρ w := by
  refine ⟨fun ρ' w' => I ρ' w' ∧ OffR W ρ ρ', μ, ⟨h0, OffR.refl _ _⟩, ?_⟩
  intro ρ1 w1 ⟨hi, ho⟩
  rw [ho.pat] at hi ⊢
  refine vcS_mono ?_ (vcS_off (hr ρ1 w1 hi))
  intro e ρ2 w2 ⟨h, ho2⟩
  cases e with
  | normal => exact ⟨⟨h.1, OffR.trans (OffR.of_pat W ρ ρ1) (OffR.of_off hW ho2)⟩, h.2⟩
  | _ => exact h

/-- The ways through a piece of code meet again. -/
theorem vc_cut {a b : S} {Q : Post} (W : List (Nat × Nat)) (I : Env → World → Prop) (hW : (wrS a).all (inR W ·) = true) (ha : vcS P a (thenQ I Q) ρ w)
    (hb : ∀ ρ' w', I (pat W ρ ρ') w' → vcS P b Q (pat W ρ ρ') w') : vcS P (.seq a b) Q ρ w := by
  show vcS P a _ ρ w
  refine vcS_mono ?_ (vcS_off ha)
  intro e ρ1 w1 ⟨h, ho⟩
  cases e with
  | normal =>
    have := (OffR.of_off hW ho).pat
    show vcS P b Q ρ1 w1
    rw [this]
    replace h : I ρ1 w1 := h
    rw [this] at h
    exact hb _ _ h
  | _ => exact h

/-! ### Functions -/
inductive RV where
  | t (s : Nat) | ld (s : Nat) | ldN (n s : Nat)
structure SF where
  n : Nat
  k : Nat
  res : List RV
  body : S
def trR (P : Program) (N : Nat) : ResultVar → Option RV
  | .tmp s => if s < N then some (.t s) else none
  | .cell s t => if s < N then (match P.underlying t with | some d => if isAggB d then (szOf P t).map (.ldN · s) else some (.ld s) | none => none) else none
def trRs (P : Program) (N : Nat) : List ResultVar → Option (List RV)
  | [] => some []
  | x :: r => (trR P N x).bind fun a => (trRs P N r).map (a :: ·)
def trF (P : Program) (f : Nat) : Option SF :=
  (P.funcs[f]?).bind fun fn => fn.body.bind fun c => (trRs P fn.ntmps fn.results.toList).bind fun rs => if fn.params.size + fn.nfree ≤ fn.ntmps then some ⟨fn.ntmps, fn.params.size + fn.nfree, rs, trS P fn.ntmps c⟩ else none

def tupV : List Value → Value
  | [v] => v
  | vs => .tuple vs.toArray
def resP : List RV → Env → World → (List Value → Prop) → Prop
  | [], _, _, k => k []
  | .t s :: r, ρ, w, k => resP r ρ w fun vs => k (ρ s :: vs)
  | .ld s :: r, ρ, w, k => seqO (ldV w (ρ s)) fun v => resP r ρ w fun vs => k (v :: vs)
  | .ldN n s :: r, ρ, w, k => seqO (ldNV w n (ρ s)) fun v => resP r ρ w fun vs => k (v :: vs)
def retQ (rs : List RV) (R : Value → World → Prop) : Post := fun e ρ w => match e with | .normal | .ret => resP rs ρ w fun vs => R (tupV vs) w | _ => False
def ini : List Value → Env
  | [], _ => undef
  | v :: r, i => if i = 0 then v else ini r (i - 1)
theorem ini_get (l : List Value) (i : Nat) : ini l i = (l[i]?).getD undef := by
  induction l generalizing i with
  | nil => rfl
  | cons v r ih =>
    simp only [ini]
    cases i with
    | zero => rfl
    | succ i => simp [ih]
theorem ini_act (args : List Value) (h : args.length ≤ N) : ({ tmps := args.toArray ++ Array.replicate (N - args.toArray.size) undef, defers := [] } : Act) = act N (ini args) := by
  simp only [act]
  congr 1
  apply Array.ext_getElem?
  intro i
  rw [Array.getElem?_append]
  simp only [List.size_toArray, List.getElem?_toArray, Array.getElem?_replicate, Array.getElem?_map, Array.getElem?_range]
  by_cases hi : i < args.length
  · have : i < N := by omega
    simp [hi, this, ini_get]
  · simp only [hi, if_false]
    by_cases h2 : i < N
    · have : i - args.length < N - args.length := by omega
      simp [h2, this, ini_get, List.getElem?_eq_none (Nat.le_of_not_lt hi)]
    · have : ¬ i - args.length < N - args.length := by omega
      simp [h2, this]

theorem asAddr_ptr (a : Addr) : asAddr (.pointer (some a)) = pure a := rfl
theorem resP_ok {rs : List ResultVar} : ∀ {l : List RV} {k : List Value → Prop}, trRs P N rs = some l → resP l ρ w k → ∃ vs, (rs.mapM (m := Sem) fun
    | .tmp t => pure ((act N ρ).tmps.getD t undef)
    | .cell a t => do loadVar t (← asAddr ((act N ρ).tmps.getD a undef))).run P w = .ok vs w ∧ k vs := by
  induction rs with
  | nil => intro l k h hk; injection h with h; subst h; exact ⟨[], by simp, hk⟩
  | cons x r ih =>
    intro l k h hk
    simp only [trRs, Option.bind_eq_some_iff, Option.map_eq_some_iff] at h
    obtain ⟨a, ha, l', hl', rfl⟩ := h
    cases x with
    | tmp s =>
      simp only [trR] at ha
      split at ha
      · rename_i hs
        injection ha with ha; subst ha
        obtain ⟨vs, h1, h2⟩ := ih hl' hk
        refine ⟨_, ?_, h2⟩
        simp only [List.mapM_cons, Sem.run_bind, Sem.run_pure, Result.andThen_ok]
        rw [h1, act_get N ρ s hs]
        simp
      · cases ha
    | cell s t =>
      simp only [trR] at ha
      split at ha
      · rename_i hs
        split at ha
        · rename_i d hd
          split at ha
          · rename_i hag
            simp only [Option.map_eq_some_iff] at ha
            obtain ⟨n, hn, rfl⟩ := ha
            obtain ⟨v, hv, hk⟩ := seqO_ex hk
            obtain ⟨vs, h1, h2⟩ := ih hl' hk
            refine ⟨_, ?_, h2⟩
            have hv' : ldNV w n ((act N ρ).tmps.getD s undef) = some v := by rw [act_get N ρ s hs]; exact hv
            unfold ldNV at hv'
            split at hv'
            · rename_i ad had
              rw [Option.map_eq_some_iff] at hv'
              obtain ⟨c, hc, rfl⟩ := hv'
              have hl := lds_run (P := P) ad n 0 c #[] hc
              have hlv : (loadVar t ad).run P w = .ok (.agg c.toArray) w := by
                simp only [loadVar, Sem.run_bind, isAgg_run hd, hag, if_true, szOf_run hn, Result.andThen_ok, loadCells, hl]
                simp
              simp only [List.mapM_cons, Sem.run_bind, had, asAddr_ptr, Sem.run_pure, Result.andThen_ok, hlv]
              rw [h1]
              simp
            · cases hv'
          · rename_i hag
            injection ha with ha; subst ha
            obtain ⟨v, hv, hk⟩ := seqO_ex hk
            obtain ⟨vs, h1, h2⟩ := ih hl' hk
            refine ⟨_, ?_, h2⟩
            have hv' : ldV w ((act N ρ).tmps.getD s undef) = some v := by rw [act_get N ρ s hs]; exact hv
            unfold ldV at hv'
            split at hv'
            · rename_i ad had
              have hlv : (loadVar t ad).run P w = .ok v w := by
                simp only [loadVar, Sem.run_bind, isAgg_run hd, hag, Bool.false_eq_true, if_false, Result.andThen_ok]
                simp [load, Sem.run, hv']
              simp only [List.mapM_cons, Sem.run_bind, had, asAddr_ptr, Sem.run_pure, Result.andThen_ok, hlv]
              rw [h1]
              simp
            · cases hv'
        · cases ha
      · cases ha

/-- A function's contract, out of what its body asks. -/
theorem fn_ok {f : FuncId} {sf : SF} {args : List Value} {R : Value → World → Prop} (hf : trF P f = some sf) (ha : args.length = sf.k) (h : vcS P sf.body (retQ sf.res R) (ini args) w) : callP P f args w R := by
  simp only [trF, Option.bind_eq_some_iff] at hf
  obtain ⟨fn, hfn, c, hc, rs, hrs, hf⟩ := hf
  split at hf
  · rename_i hle
    injection hf with hf; subst hf
    refine calls_of_wp hfn hc ?_
    rw [ini_act args (by simp only at ha; omega)]
    refine wp_mono (vcS_ok h) ?_
    rintro e _ w' ⟨ρ, rfl, hq⟩
    have key : resP rs ρ w' (fun vs => R (tupV vs) w') → ((act fn.ntmps ρ).defers = [] ∧ ∃ v, (results fn (act fn.ntmps ρ).tmps).run P w' = .ok v w' ∧ (∃ u, Ending.returned v = .returned u ∧ R u w')) := by
      intro hq
      obtain ⟨vs, h1, h2⟩ := resP_ok hrs hq
      refine ⟨rfl, tupV vs, ?_, _, rfl, h2⟩
      have h3 : (fn.results.mapM (m := Sem) fun
          | .tmp t => pure ((act fn.ntmps ρ).tmps.getD t undef)
          | .cell a t => do loadVar t (← asAddr ((act fn.ntmps ρ).tmps.getD a undef))).run P w' = .ok vs.toArray w' := by
        have : fn.results = fn.results.toList.toArray := by simp
        rw [this, List.mapM_toArray, Sem.run_map, h1]
        rfl
      simp only [results, Sem.run_bind]
      refine Eq.trans (congrArg (fun (r : Result (Array Value)) => r.andThen fun a w' => Sem.run P (pure (if h : a.size = 1 then a[0] else Value.tuple a)) w') h3) ?_
      simp only [Result.andThen_ok, Sem.run_pure]
      congr 1
      match vs with
      | [] => rfl
      | [v] => rfl
      | a :: b :: r => simp [tupV]
    cases e with
    | normal => exact key hq
    | ret => exact key hq
    | _ => exact hq.elim
  · cases hf
theorem callP_mono {f : FuncId} {args : List Value} {k k' : Value → World → Prop} (h : callP P f args w k) (hk : ∀ v w', k v w' → k' v w') : callP P f args w k' :=
  Calls.mono (R := fun e w' => ∃ v, e = .returned v ∧ k v w') h fun _ _ ⟨v, he, hh⟩ => ⟨v, he, hk _ _ hh⟩
end
end Go.Proofs.Ytfiknjogkpbgdaa.E
