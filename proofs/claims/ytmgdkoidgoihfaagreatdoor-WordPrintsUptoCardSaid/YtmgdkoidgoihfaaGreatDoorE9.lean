/- The calculus of code: what a body asks, that it is sound, what a piece of code does not write stays; loops; functions. Conditions: none. -/
import Derived.Test.YtmgdkoidgoihfaaGreatDoorEX
import Derived.Sort.LoopGhostIn
import Derived.Scope
import Derived.DefersIn
namespace Go.Proofs.YtmgdkoidgoihfaaGreatDoor.E
open Go.RowKit

/-- A call that is put off, without arguments: of what. -/
def dfrX (N : Nat) (o : Oper) : Option Arg := match o.op, o.guard, o.dst with
  | .defer c, none, none => (match c.callee with | .value f => if c.args = #[] then trA N f else none | _ => none)
  | _, _, _ => none
def trOd (P : Program) (N : Nat) (ops : Array Oper) (o : Oper) : St := match dfrX N o with
  | some x => ⟨some N, none, .gen .dfr [x, .t N]⟩
  | none => trO P N ops o
def isDfr (s : St) : Bool := match s.ins with | .gen .dfr _ => true | _ => false
inductive S where
  | skip | ops (l : List St) | draw (d : D)
  | seq (a b : S) | cond (c : Arg) (a b : S) | blk (id : Nat) (a : S) | loop (a : S) | exit (id : Nat) | ret | bad
  | rng (N : Nat) (x : Arg) (ps : Array Nat) (as bd : Code) (a b : S)
/-- No range over a function is in it. -/
def noR : S → Bool
  | .seq a b => noR a && noR b
  | .cond _ a b => noR a && noR b
  | .blk _ a => noR a
  | .loop a => noR a
  | .rng .. => false
  | .ops l => l.all fun s => !isDfr s
  | _ => true
/-- In which orders are the open regions walked? -/
abbrev Hints := List (Nat × Pl)
def hintAt : Hints → Nat → Pl
  | [], _ => .done
  | (i, p) :: r, n => if i = n then p else hintAt r n
def trS (P : Program) (N : Nat) (hs : Hints) : Code → S
  | .skip => .skip
  | .region _ ops false => if dOk N ops.toList then .ops (ops.toList.map (trOd P N ops)) else .bad
  | .region id ops true => match drawD P N ops (hintAt hs id) with | some d => .draw d | none => .bad
  | .seq a b => .seq (trS P N hs a) (trS P N hs b)
  | .cond c a b => match trA N c with | some c => .cond c (trS P N hs a) (trS P N hs b) | none => .bad
  | .block id a => .blk id (trS P N hs a)
  | .loop a => .loop (trS P N hs a)
  | .exit id => .exit id
  | .ret => .ret
  | .scope a => trS P N hs a
  | .label _ => .skip
  | .rangeFunc g ps as bd => match trA N g with | some x => if ps.all (fun p => decide (p < N)) && (noR (trS P N hs as) && noR (trS P N hs bd)) then .rng N x ps as bd (trS P N hs as) (trS P N hs bd) else .bad | none => .bad
  | _ => .bad
/-- A loop's record. -/
def recL (N : Nat) (ρ : Env) (ps : Array Nat) (as bd : Code) (D fn : Nat) (st : LoopState) : Loop := { state := st, pending := none, fn := fn, tmps := (act N ρ).tmps, params := ps, assign := as, body := bd, defers := D }
/-- A range over a function: what is asked. -/
def rngP (P : Program) (N : Nat) (x : Value) (ps : Array Nat) (as bd : Code) (ρ : Env) (w : World) (k : World → Prop) : Prop :=
  match x with
  | .func (.func g) first cap => okFn P g = true ∧ ∀ fn, callP P g (first.toList ++ [.func (.yield (size w + 1)) #[] #[]] ++ cap.toList) ((w.alloc (.deferred (some []))).alloc (.loop (recL N ρ ps as bd (size w) fn .ready))) fun _ w' =>
      w'.heap[size w + 1]? = some (.loop (recL N ρ ps as bd (size w) fn .ready)) ∧ k (w'.putObj (size w + 1) (.loop (recL N ρ ps as bd (size w) fn .exhausted)))
  | _ => False
def vcS (P : Program) : S → Post → Env → World → Prop
  | .skip, Q, ρ, w => Q .normal ρ w
  | .ops l, Q, ρ, w => vcL P l Q ρ w
  | .draw d, Q, ρ, w => vcD P d Q ρ (w.drewN 1)
  | .seq a b, Q, ρ, w => vcS P a (thenQ (vcS P b Q) Q) ρ w
  | .cond c a b, Q, ρ, w => condP (c.ev ρ) (vcS P a Q ρ w) (vcS P b Q ρ w)
  | .blk id a, Q, ρ, w => vcS P a (blkQ id Q) ρ w
  | .loop a, Q, ρ, w => ∃ (I : Nat → Env → World → Prop), (∃ n, I n ρ w) ∧ ∀ n ρ w, I n ρ w → vcS P a (thenQ (fun ρ' w' => ∃ n', n' < n ∧ I n' ρ' w') Q) ρ w
  | .exit id, Q, ρ, w => Q (.exit id) ρ w
  | .ret, Q, ρ, w => Q .ret ρ w
  | .bad, _, _, _ => False
  | .rng N x ps as bd _ _, Q, ρ, w => rngP P N (x.ev ρ) ps as bd ρ w fun w' => Q .normal (up ρ N (consM (.int .i64 (size w)) (ρ N))) w'

section
variable {P : Program} {N : Nat} {hs : Hints} {ρ : Env} {w : World}
theorem vcD_mono : ∀ {d : D} {Q Q' : Post} {ρ : Env} {w : World}, (∀ e ρ w, Q e ρ w → Q' e ρ w) → vcD P d Q ρ w → vcD P d Q' ρ w
  | .ops l, _, _, _, _, hq, h => vcL_mono hq h
  | .alt l a b, Q, Q', ρ, w, hq, h => vcL_mono (Q := fun _ ρ w => vcD P a Q ρ w ∧ vcD P b Q ρ w) (Q' := fun _ ρ w => vcD P a Q' ρ w ∧ vcD P b Q' ρ w) (fun _ _ _ h => ⟨vcD_mono hq h.1, vcD_mono hq h.2⟩) h
theorem rngP_mono {x : Value} {ps : Array Nat} {as bd : Code} {k k' : World → Prop} (hk : ∀ w, k w → k' w) (h : rngP P N x ps as bd ρ w k) : rngP P N x ps as bd ρ w k' := by
  unfold rngP at *
  split at h
  · exact ⟨h.1, fun fn => Calls.mono (R := fun e w' => ∃ v, e = .returned v ∧ _) (h.2 fn) fun _ _ ⟨v, he, h1, h2⟩ => ⟨v, he, h1, hk _ h2⟩⟩
  · exact h.elim
theorem vcS_mono : ∀ {s : S} {Q Q' : Post} {ρ : Env} {w : World}, (∀ e ρ w, Q e ρ w → Q' e ρ w) → vcS P s Q ρ w → vcS P s Q' ρ w := by
  intro s
  induction s with
  | skip => intro Q Q' ρ w hq h; exact hq _ _ _ h
  | ops l => intro Q Q' ρ w hq h; exact vcL_mono hq h
  | draw d => intro Q Q' ρ w hq h; exact vcD_mono hq h
  | seq a b iha ihb => intro Q Q' ρ w hq h; exact iha (thenQ_mono (fun ρ w h => ihb hq h) hq) h
  | cond c a b iha ihb => intro Q Q' ρ w hq h; exact condP_mono (iha hq) (ihb hq) h
  | blk id a ih => intro Q Q' ρ w hq h; exact ih (blkQ_mono hq) h
  | loop a ih =>
    intro Q Q' ρ w hq h
    obtain ⟨I, h0, hr⟩ := h
    exact ⟨I, h0, fun n ρ w hi => ih (thenQ_mono (fun _ _ h => h) hq) (hr n ρ w hi)⟩
  | exit id => intro Q Q' ρ w hq h; exact hq _ _ _ h
  | ret => intro Q Q' ρ w hq h; exact hq _ _ _ h
  | bad => intro Q Q' ρ w hq h; exact h
  | rng N x ps as bd a b => intro Q Q' ρ w hq h; exact rngP_mono (fun w h => hq _ _ _ h) h

theorem lift_then {K : Env → World → Prop} {Q : Post} {X : Act → World → Prop} {Y : Exit → Act → World → Prop} (hk : ∀ ρ w, K ρ w → X (act N ρ) w) (hq : ∀ e ρ w, Q e ρ w → Y e (act N ρ) w)
    (e : Exit) (a : Act) (w : World) (h : lift N (thenQ K Q) e a w) : Exit.then X Y e a w := by
  obtain ⟨ρ, rfl, h⟩ := h
  cases e with
  | normal => exact hk _ _ h
  | _ => exact hq _ _ _ h

/-- Nothing here goes to a label. -/
def ngQ (Q : Post) : Post := fun e ρ w => match e with | .goto _ => False | e => Q e ρ w
theorem vcL_ng : ∀ {l : List St} {Q : Post} {ρ : Env} {w : World}, vcL P l Q ρ w → vcL P l (ngQ Q) ρ w
  | [], _, _, _, h => h
  | s :: r, Q, ρ, w, h => by
    simp only [vcL] at h ⊢
    split at h
    · exact vcI_mono (fun v w h => vcL_ng h) h
    · exact grdP_mono (fun h => vcI_mono (fun v w h => vcL_ng h) h) vcL_ng h
theorem vcD_ng : ∀ {d : D} {Q : Post} {ρ : Env} {w : World}, vcD P d Q ρ w → vcD P d (ngQ Q) ρ w
  | .ops l, _, _, _, h => vcL_ng h
  | .alt l a b, Q, ρ, w, h => vcL_mono (Q := fun _ ρ w => vcD P a Q ρ w ∧ vcD P b Q ρ w) (Q' := fun _ ρ w => vcD P a (ngQ Q) ρ w ∧ vcD P b (ngQ Q) ρ w) (fun _ _ _ h => ⟨vcD_ng h.1, vcD_ng h.2⟩) h
theorem vcS_ng : ∀ {s : S} {Q : Post} {ρ : Env} {w : World}, vcS P s Q ρ w → vcS P s (ngQ Q) ρ w := by
  intro s
  induction s with
  | skip => intro Q ρ w h; exact h
  | ops l => intro Q ρ w h; exact vcL_ng h
  | draw d => intro Q ρ w h; exact vcD_ng h
  | seq a b iha ihb =>
    intro Q ρ w h
    show vcS P a _ ρ w
    refine vcS_mono ?_ (iha (Q := thenQ (vcS P b (ngQ Q)) Q) (vcS_mono ?_ h))
    · intro e ρ w h; cases e <;> exact h
    · intro e ρ w h; cases e <;> first | exact ihb h | exact h
  | cond c a b iha ihb => intro Q ρ w h; exact condP_mono iha ihb h
  | blk id a ih =>
    intro Q ρ w h
    show vcS P a _ ρ w
    refine vcS_mono ?_ (ih h)
    intro e ρ w h
    cases e with
    | exit i =>
      simp only [ngQ, blkQ] at h ⊢
      split at h
      · rename_i hc; rw [if_pos hc]; exact h
      · rename_i hc; rw [if_neg hc]; exact h
    | _ => exact h
  | loop a ih =>
    intro Q ρ w h
    obtain ⟨I, h0, hr⟩ := h
    refine ⟨I, h0, fun n ρ w hi => vcS_mono ?_ (ih (hr n ρ w hi))⟩
    intro e ρ w h; cases e <;> exact h
  | exit id => intro Q ρ w h; exact h
  | ret => intro Q ρ w h; exact h
  | bad => intro Q ρ w h; exact h
  | rng N x ps as bd a b => intro Q ρ w h; exact h

theorem consM_dfrs (m v : Value) : dfrs (consM m v) = dfr1 m :: dfrs v := by
  cases v <;> simp [consM, dfrs]
theorem act_up (v : Value) : act N (up ρ N v) = { act N ρ with defers := dfrs v } := by
  simp only [act]
  congr 1
  · apply Array.ext_getElem?
    intro i
    simp only [Array.getElem?_map, Array.getElem?_range]
    by_cases h : i < N
    · have : ¬ i = N := by omega
      simp [h, up, this]
    · simp [h]
  · simp [up]
theorem vcLd_ok {ro : Option Nat} {ops : Array Oper} {Q : Post} : ∀ {l : List Oper} {ρ : Env} {w : World}, dOk N l = true → (ro = none ∨ (l.map (trOd P N ops)).all (fun s => !isDfr s) = true) → vcL P (l.map (trOd P N ops)) Q ρ w → wpListIn (fz ro) 0 P ops (lift N Q) l (act N ρ) w
  | [], ρ, w, _, _, h => ⟨ρ, rfl, h⟩
  | o :: r, ρ, w, hd, hn, h => by
    simp only [dOk, List.all_cons, Bool.and_eq_true, bne_iff_ne] at hd
    have hn2 : ro = none ∨ (r.map (trOd P N ops)).all (fun s => !isDfr s) = true := hn.imp id fun h => by
      simp only [List.map_cons, List.all_cons, Bool.and_eq_true] at h
      exact h.2
    have ih := fun {ρ w} h => @vcLd_ok ro ops Q r ρ w hd.2 hn2 h
    have hd := hd.1
    simp only [List.map_cons, vcL] at h
    unfold wpListIn
    cases hx : dfrX N o with
    | some x =>
      have hro : ro = none := by
        rcases hn with h | h
        · exact h
        · simp only [List.map_cons, List.all_cons, trOd, hx, isDfr, Bool.not_true, Bool.false_and] at h
          cases h
      subst hro
      simp only [trOd, hx] at h
      unfold dfrX at hx
      split at hx
      · rename_i c hop hg hdst
        split at hx
        · rename_i f hcal
          split at hx
          · rename_i hargs
            rw [if_pos (by simp [Region.wanted, hg])]
            replace h : genP P .dfr [x.ev ρ, ρ N] w fun v w' => vcL P (r.map (trOd P N ops)) Q (up ρ N v) w' := h
            obtain ⟨v, w', hv, hk⟩ := h
            obtain ⟨g, a, b, hxe⟩ : ∃ g a b, x.ev ρ = .func (.func g) a b := by
              cases hxe : x.ev ρ with
              | func fn a b =>
                cases fn with
                | func g => exact ⟨g, a, b, rfl⟩
                | _ => rw [hxe] at hv; simp [lkSem, stuck] at hv
              | _ => rw [hxe] at hv; simp [lkSem, stuck] at hv
            rw [hxe] at hv
            simp only [lkSem, Sem.run_pure, Result.ok.injEq] at hv
            obtain ⟨rfl, rfl⟩ := hv
            refine ⟨fun _ _ => trivial, ?_⟩
            have hres : (execOp (act N ρ).eval o).run P w = .ok (.defer { target := .fn (.func g) b, args := a }) w := by
              simp only [execOp, hop, resolve, hcal, hargs, trA_ev hx, hxe, Deferred.ofValue, Sem.run_bind, Sem.run_pure, Result.andThen_ok]
              simp
            show o.uponIn (fz none) 0 P (act N ρ) _ _ ((execOp (act N ρ).eval o).run P w)
            rw [hres, Oper.uponIn_defer, hdst]
            have e : ({ act N ρ with defers := { target := .fn (.func g) b, args := a } :: (act N ρ).defers } : Act).put none undef = act N (up ρ N (consM (.func (.func g) a b) (ρ N))) := by
              rw [act_up, consM_dfrs]
              rfl
            rw [e]
            exact ih hk
          · cases hx
        · cases hx
      · cases hx
    | none =>
      simp only [trOd, hx] at h
      have run : vcI P (trI P N o) ρ w (fun v w' => vcL P (r.map (trOd P N ops)) Q (upd ρ o.dst v) w') → Oper.wpIn (fz ro) 0 P o (act N ρ) w (wpListIn (fz ro) 0 P ops (lift N Q) r) (lift N Q) := by
        intro hh
        refine Goes.wp (trI_nd hh) (trI_ok (vcI_mono (fun v w' hv => ?_) hh))
        rw [act_put _ _ _ _ hd]
        exact ih hv
      cases hg : o.guard with
      | none =>
        simp only [trO, hg] at h
        rw [if_pos (by simp [Region.wanted, hg])]
        exact run h
      | some jw =>
        obtain ⟨j, want⟩ := jw
        cases hb : (ops[j]?).bind (·.dst) with
        | none => simp only [trO, hg, hb] at h; exact h.elim
        | some s =>
          by_cases hs : s < N
          · simp only [trO, hg, hb, hs, if_true] at h
            have hy := act_yield (ρ := ρ) hb hs
            have hwant : Region.wanted o (yielded ops (act N ρ).tmps) = (boolOf (ρ s) == some want) := by
              simp only [Region.wanted, hg, hy]
            rw [hwant]
            have hskip : vcL P (r.map (trOd P N ops)) Q (upd ρ o.dst undef) w → wpListIn (fz ro) 0 P ops (lift N Q) r ((act N ρ).put o.dst undef) w := by
              intro hh
              rw [act_put _ _ _ _ hd]
              exact ih hh
            unfold grdP at h
            split at h
            · rename_i b hv
              split at h
              · rename_i hbw; subst hbw
                rw [if_pos (by simp [hv, boolOf])]
                exact run h
              · rename_i hbw
                rw [if_neg (by simp [hv, boolOf, hbw])]
                exact ⟨fun _ _ => trivial, hskip h⟩
            · rename_i hv
              rw [if_neg (by
                have : boolOf (ρ s) = none := by
                  unfold boolOf
                  split
                  · rename_i b hb'; exact (hv b hb').elim
                  · rfl
                simp [this])]
              exact ⟨fun _ _ => trivial, hskip h⟩
          · simp only [trO, hg, hb, hs, if_false] at h; exact h.elim
theorem wpIn_scope_straight {F : Fence} {n : Nat} {c : Code} {Q : Exit → Act → World → Prop} {a : Act} (h : c.wpIn F n P (Exit.noGoto Q) a w) : (Code.scope c).wpIn F n P Q a w := by
  intro b k cs hro hb hr
  have h0 : (lone (b.atR a (.code (.scope c) :: k)) cs w).fenced P F := fenced_calm hb hr rfl
  have s1 : step P (lone (b.atR a (.code (.scope c) :: k)) cs w) = .next (lone (b.atR a (.code c :: .inScope c :: k)) cs w) := step_lone_go (by simp [stepG, stepG.exec, Frame.atR])
  obtain ⟨e, a₁, w₁, hq, harr⟩ := h b (.inScope c :: k) cs hro hb hr
  cases e with
  | normal => exact ⟨.normal, a₁, w₁, hq, .head h0 s1 (StepsIn.trans harr (.one (fenced_calm hb hr rfl) (step_lone_go (by simp [stepG, stepG.exec, Frame.atR]))))⟩
  | exit id =>
    have hx : exitTo id (.inScope c :: k) = exitTo id k := by simp [exitTo]
    exact ⟨.exit id, a₁, w₁, hq, fun k' hk => .head h0 s1 (harr.1 k' (by rw [hx]; exact hk)), fun hr' hk => let ⟨k₁, h1, h2⟩ := harr.2 hr' (by rw [hx]; exact hk); ⟨k₁, h1, .head h0 s1 h2⟩⟩
  | goto l => exact hq.elim
  | ret => exact ⟨_, a₁, w₁, hq, .of_steps (.one h0 s1) harr⟩
  | panic ch => exact ⟨_, a₁, w₁, hq, .of_steps (.one h0 s1) harr⟩
  | outgrown => exact ⟨_, a₁, w₁, hq, .of_steps (.one h0 s1) harr⟩
theorem rng_ok {g : Operand} {x : Arg} {ps : Array Nat} {as bd : Code} {Q : Post} (hx : trA N g = some x) (h : rngP P N (x.ev ρ) ps as bd ρ w fun w' => Q .normal (up ρ N (consM (.int .i64 (size w)) (ρ N))) w') : (Code.rangeFunc g ps as bd).wpIn (fz none) 0 P (lift N Q) (act N ρ) w := by
  unfold rngP at h
  split at h
  · rename_i f first cap hf
    obtain ⟨hok, h⟩ := h
    refine wpIn_rangeFunc fun fn _ => ?_
    have hcall : CallsIn (fz none) (0 - 1) P f (first.toList ++ [Value.func (.yield (size w + 1)) #[] #[]] ++ cap.toList).toArray ((w.alloc (.deferred (some []))).alloc (.loop (recL N ρ ps as bd (size w) fn .ready)))
        (rangePost (fz none) 0 P (size w + 1) (lift N Q) { act N ρ with defers := [{ target := .collected (size w), args := #[] }] ++ (act N ρ).defers }) := by
      refine fz_calls (Calls.mono (h fn) ?_)
      rintro e w' ⟨v, rfl, h1, h2⟩
      refine ⟨none, _, run_endLoop h1 (by simp [recL]), _, ?_, h2⟩
      rw [act_up, consM_dfrs]
      rfl
    have hinv : (invoke (.fn (.func f) cap) (first ++ #[Value.func (.yield (size w + 1)) #[] #[]])).run P ((w.alloc (.deferred (some []))).alloc (.loop (recL N ρ ps as bd (size w) fn .ready))) =
        .ok (.enter f (first.toList ++ [Value.func (.yield (size w + 1)) #[] #[]] ++ cap.toList).toArray) ((w.alloc (.deferred (some []))).alloc (.loop (recL N ρ ps as bd (size w) fn .ready))) := by
      simp only [invoke]
      have e2 : first ++ #[Value.func (.yield (size w + 1)) #[] #[]] ++ cap = (first.toList ++ [Value.func (.yield (size w + 1)) #[] #[]] ++ cap.toList).toArray := by
        rw [← Array.toList_inj]; simp
      rw [e2]
      exact okFn_run hok
    have hres : (resolve (act N ρ).eval (rangeCall g (size w + 1)) 0).run P ((w.alloc (.deferred (some []))).alloc (.loop (recL N ρ ps as bd (size w) fn .ready))) =
        .ok { target := .fn (.func f) cap, args := first ++ #[Value.func (.yield (size w + 1)) #[] #[]] } ((w.alloc (.deferred (some []))).alloc (.loop (recL N ρ ps as bd (size w) fn .ready))) := by
      simp only [resolve, rangeCall, trA_ev hx, hf, Deferred.ofValue, Sem.run_bind, Sem.run_pure, Result.andThen_ok]
      simp [Act.eval]
    exact ⟨size w + 1, _, _, _, _, f, _, _, run_enterLoop_outer _ _ _ _ _, hres, fun _ _ => trivial, hinv, fz_depth, hcall⟩
  · exact h.elim

theorem vcS_ok : ∀ {c : Code} {ro : Option Nat} {Q : Post} {ρ : Env} {w : World}, (ro = none ∨ noR (trS P N hs c) = true) → vcS P (trS P N hs c) Q ρ w → Code.wpIn (fz ro) 0 P c (lift N Q) (act N ρ) w := by
  intro c
  induction c with
  | skip => intro ro Q ρ w _ h; exact wpIn_skip ⟨ρ, rfl, h⟩
  | region id ops draw =>
    intro ro Q ρ w hro h
    cases draw with
    | false =>
      simp only [trS] at h
      split at h
      · rename_i hd
        refine wpIn_region_list (vcLd_ok hd (hro.imp (fun h => h) fun h => ?_) h)
        simp only [trS, hd, if_true, noR] at h
        exact h
      · exact h.elim
    | true =>
      simp only [trS] at h
      split at h
      · rename_i d hd
        exact draw_ok hd h
      · exact h.elim
  | seq a b iha ihb =>
    intro ro Q ρ w hro h
    have h1 : ro = none ∨ noR (trS P N hs a) = true := hro.imp id fun h => by simp only [trS, noR, Bool.and_eq_true] at h; exact h.1
    have h2 : ro = none ∨ noR (trS P N hs b) = true := hro.imp id fun h => by simp only [trS, noR, Bool.and_eq_true] at h; exact h.2
    refine wpIn_seq (wpIn_mono (iha h1 h) ?_)
    exact lift_then (fun ρ w h => ihb h2 h) (fun e ρ w h => ⟨ρ, rfl, h⟩)
  | cond c a b iha ihb =>
    intro ro Q ρ w hro h
    simp only [trS] at h
    split at h
    · rename_i x hx
      have h1 : ro = none ∨ noR (trS P N hs a) = true := hro.imp id fun h => by simp only [trS, hx, noR, Bool.and_eq_true] at h; exact h.1
      have h2 : ro = none ∨ noR (trS P N hs b) = true := hro.imp id fun h => by simp only [trS, hx, noR, Bool.and_eq_true] at h; exact h.2
      replace h : condP (x.ev ρ) (vcS P (trS P N hs a) Q ρ w) (vcS P (trS P N hs b) Q ρ w) := h
      unfold condP at h
      split at h
      · rename_i hv; exact wpIn_cond_true (by rw [trA_ev hx, hv]) (iha h1 h)
      · rename_i hv; exact wpIn_cond_false (by rw [trA_ev hx, hv]) (ihb h2 h)
      · exact h.elim
    · exact h.elim
  | block id a ih =>
    intro ro Q ρ w hro h
    refine wpIn_block (wpIn_mono (ih (hro.imp (fun h => h) fun h => by simpa only [trS, noR] using h) h) ?_)
    rintro e _ w' ⟨ρ', rfl, hq⟩
    cases e with
    | exit i =>
      simp only [blkQ, Exit.inBlock] at hq ⊢
      split at hq
      · rename_i hc; rw [if_pos hc]; exact ⟨ρ', rfl, hq⟩
      · rename_i hc; rw [if_neg hc]; exact ⟨ρ', rfl, hq⟩
    | _ => exact ⟨ρ', rfl, hq⟩
  | loop a ih =>
    intro ro Q ρ w hro h
    obtain ⟨I, ⟨n0, h0⟩, hr⟩ := h
    refine wpIn_loop_ghost (fun n a w => ∃ ρ, a = act N ρ ∧ I n ρ w) n0 ⟨ρ, rfl, h0⟩ ?_
    rintro n _ w ⟨ρ, rfl, hi⟩
    refine wpIn_mono (ih (hro.imp (fun h => h) fun h => by simpa only [trS, noR] using h) (hr n ρ w hi)) ?_
    exact lift_then (fun ρ' w' ⟨n', hn, h⟩ => ⟨n', hn, ρ', rfl, h⟩) (fun e ρ' w' h => ⟨ρ', rfl, h⟩)
  | exit id => intro ro Q ρ w _ h; exact wpIn_exit ⟨ρ, rfl, h⟩
  | ret => intro ro Q ρ w _ h; exact wpIn_ret ⟨ρ, rfl, h⟩
  | rangeFunc g ps as bd iha ihb =>
    intro ro Q ρ w hro h
    simp only [trS] at h
    split at h
    · rename_i x hx
      split at h
      · rename_i hc
        rcases hro with rfl | hro
        · exact rng_ok hx h
        · simp only [trS, hx, hc, if_true, noR] at hro
          cases hro
      · exact h.elim
    · exact h.elim
  | scope a ih =>
    intro ro Q ρ w hro h
    refine wpIn_scope_straight (wpIn_mono (ih (hro.imp (fun h => h) fun h => by simpa only [trS, noR] using h) (vcS_ng h)) ?_)
    rintro e _ w' ⟨ρ', rfl, hq⟩
    cases e with
    | goto l => exact hq.elim
    | _ => exact ⟨ρ', rfl, hq⟩
  | label => intro ro Q ρ w _ h; exact wpIn_label ⟨ρ, rfl, h⟩
  | goto => intro ro Q ρ w _ h; exact h.elim
  | refuse => intro ro Q ρ w _ h; exact h.elim

/-! ### One round -/
def setPs (ρ : Env) : List Nat → List Value → Env
  | p :: ps, v :: vs => setPs (up ρ p v) ps vs
  | _, _ => ρ
theorem set_tmps (p : Nat) (v : Value) : (act N ρ).tmps.setIfInBounds p v = (act N (up ρ p v)).tmps := by
  simp only [act]
  apply Array.ext_getElem?
  intro i
  rw [Array.getElem?_setIfInBounds]
  simp only [Array.getElem?_map, Array.getElem?_range, Array.size_map, Array.size_range]
  by_cases h : p = i
  · subst h
    by_cases hd : p < N <;> simp [hd, up]
  · rw [if_neg h]
    by_cases hd : i < N <;> simp [hd, up, Ne.symm h]
theorem setPs_tmps : ∀ (ps : List Nat) (vs : List Value) (ρ : Env), (ps.zip vs).foldl (fun t (x : Nat × Value) => t.setIfInBounds x.1 x.2) (act N ρ).tmps = (act N (setPs ρ ps vs)).tmps
  | [], _, ρ => by simp [setPs]
  | p :: ps, [], ρ => by simp [setPs]
  | p :: ps, v :: vs, ρ => by
    simp only [List.zip_cons_cons, List.foldl_cons, setPs]
    rw [set_tmps]
    exact setPs_tmps ps vs _
/-- A round, out of what its two pieces of code ask. -/
theorem yld_ok {l : Nat} {ps : Array Nat} {as bd : Code} {D fn : Nat} {args : List Value} {k : Value → World → Prop} (hr : w.heap[l]? = some (.loop (recL N ρ ps as bd D fn .ready))) (hps : args.length = ps.size)
    (hn : noR (trS P N hs as) = true ∧ noR (trS P N hs bd) = true)
    (h : vcS P (trS P N hs as) (thenQ (fun ρ1 w1 => w1.heap[l]? = some (.loop (recL N ρ ps as bd D fn .ready)) ∧
      vcS P (trS P N hs bd) (thenQ (fun _ w2 => w2.heap[l]? = some (.loop (recL N ρ ps as bd D fn .busy)) ∧ k (.bool true) (w2.putObj l (.loop (recL N ρ ps as bd D fn .ready)))) fun _ _ _ => False) ρ1 (w1.putObj l (.loop (recL N ρ ps as bd D fn .busy)))) fun _ _ _ => False) (up (setPs ρ ps.toList args) N undef) w) : yldP P l args w k := by
  have hy := run_yield (P := P) (args := args.toArray) hr (by simpa [recL] using hps)
  refine ⟨_, _, _, _, hy, ?_⟩
  have e1 : ((recL N ρ ps as bd D fn .ready).params.zip args.toArray).foldl (fun tmps (x : Tmp × Value) => tmps.setIfInBounds x.1 x.2) (recL N ρ ps as bd D fn .ready).tmps = (act N (setPs ρ ps.toList args)).tmps := by
    rw [← setPs_tmps, ← Array.foldl_toList]
    simp [recL]
  have e2 : ({ tmps := (act N (setPs ρ ps.toList args)).tmps, defers := [] } : Act) = act N (up (setPs ρ ps.toList args) N undef) := by
    rw [act_up]; rfl
  refine RoundIn.mono (R := fun e w' => ∃ v, e = .returned v ∧ k v w') ?_ (fun e w' h => h)
  refine roundIn_of_wpIn (F := Fence.wide) trivial ?_
  rw [e1, e2]
  refine wpIn_mono (vcS_ok (ro := some l) (.inr hn.1) h) ?_
  rintro e _ w1 ⟨ρ1, rfl, hq⟩
  cases e with
  | normal =>
    obtain ⟨h1, h2⟩ := hq
    refine ⟨_, run_beginRound h1 (by simp [recL]), ?_⟩
    refine wpIn_mono (vcS_ok (ro := some l) (.inr hn.2) h2) ?_
    rintro e _ w2 ⟨ρ2, rfl, hq⟩
    cases e with
    | normal =>
      obtain ⟨h3, h4⟩ := hq
      exact ⟨_, _, run_endRound none h3, _, rfl, h4⟩
    | _ => exact hq.elim
  | _ => exact hq.elim

/-! ### What a piece of code writes -/
def wrL : List St → List Nat
  | [] => []
  | s :: r => (match s.dst with | some d => [d] | none => []) ++ wrL r
def wrD : D → List Nat
  | .ops l => wrL l
  | .alt l a b => wrL l ++ (wrD a ++ wrD b)
def wrS : S → List Nat
  | .ops l => wrL l
  | .draw d => wrD d
  | .seq a b => wrS a ++ wrS b
  | .cond _ a b => wrS a ++ wrS b
  | .blk _ a => wrS a
  | .loop a => wrS a
  | .rng N .. => [N]
  | _ => []
def Off (W : List Nat) (ρ ρ' : Env) : Prop := ∀ i, i ∉ W → ρ' i = ρ i
theorem Off.refl (W : List Nat) (ρ : Env) : Off W ρ ρ := fun _ _ => rfl
theorem Off.trans {W : List Nat} {a b c : Env} (h : Off W a b) (k : Off W b c) : Off W a c := fun i hi => (k i hi).trans (h i hi)
theorem Off.mono {W W' : List Nat} {a b : Env} (h : Off W a b) (hs : ∀ i, i ∈ W → i ∈ W') : Off W' a b := fun i hi => h i (fun hw => hi (hs i hw))
theorem Off.upd (ρ : Env) (d : Option Nat) (v : Value) : Off (match d with | some d => [d] | none => []) ρ (upd ρ d v) := by
  intro i hi
  cases d with
  | none => rfl
  | some d =>
    simp only [List.mem_singleton] at hi
    simp [E.upd, up, hi]

theorem vcL_off : ∀ {l : List St} {Q : Post} {ρ : Env} {w : World}, vcL P l Q ρ w → vcL P l (fun e ρ' w' => Q e ρ' w' ∧ Off (wrL l) ρ ρ') ρ w
  | [], Q, ρ, w, h => ⟨h, Off.refl _ _⟩
  | s :: r, Q, ρ, w, h => by
    have step : ∀ (v : Value) (w' : World), vcL P r Q (E.upd ρ s.dst v) w' → vcL P r (fun e ρ' w' => Q e ρ' w' ∧ Off (wrL (s :: r)) ρ ρ') (E.upd ρ s.dst v) w' := by
      intro v w' hh
      refine vcL_mono (fun e ρ' w'' h => ⟨h.1, ?_⟩) (vcL_off hh)
      refine Off.trans ((Off.upd ρ s.dst v).mono ?_) (h.2.mono ?_)
      · intro i hi; simp only [wrL, List.mem_append]; exact .inl hi
      · intro i hi; simp only [wrL, List.mem_append]; exact .inr hi
    simp only [vcL] at h ⊢
    split at h
    · exact vcI_mono step h
    · exact grdP_mono (fun h => vcI_mono step h) (step _ _) h
theorem vcD_off : ∀ {d : D} {Q : Post} {ρ : Env} {w : World}, vcD P d Q ρ w → vcD P d (fun e ρ' w' => Q e ρ' w' ∧ Off (wrD d) ρ ρ') ρ w
  | .ops l, Q, ρ, w, h => vcL_off h
  | .alt l a b, Q, ρ, w, h => by
    refine vcL_mono (Q := fun e ρ' w' => (vcD P a Q ρ' w' ∧ vcD P b Q ρ' w') ∧ Off (wrL l) ρ ρ') ?_ (vcL_off (Q := fun _ ρ w => vcD P a Q ρ w ∧ vcD P b Q ρ w) h)
    intro e ρ' w' ⟨⟨ha, hb⟩, ho⟩
    refine ⟨vcD_mono (fun e ρ'' w'' h => ⟨h.1, ?_⟩) (vcD_off ha), vcD_mono (fun e ρ'' w'' h => ⟨h.1, ?_⟩) (vcD_off hb)⟩
    · exact Off.trans (ho.mono (by intro i hi; simp [wrD, hi])) (h.2.mono (by intro i hi; simp [wrD, hi]))
    · exact Off.trans (ho.mono (by intro i hi; simp [wrD, hi])) (h.2.mono (by intro i hi; simp [wrD, hi]))

theorem vcS_off : ∀ {s : S} {Q : Post} {ρ : Env} {w : World}, vcS P s Q ρ w → vcS P s (fun e ρ' w' => Q e ρ' w' ∧ Off (wrS s) ρ ρ') ρ w := by
  intro s
  induction s with
  | skip => intro Q ρ w h; exact ⟨h, Off.refl _ _⟩
  | ops l => intro Q ρ w h; exact vcL_off h
  | draw d => intro Q ρ w h; exact vcD_off h
  | seq a b iha ihb =>
    intro Q ρ w h
    show vcS P a _ ρ w
    refine vcS_mono ?_ (iha h)
    intro e ρ' w' ⟨h, ho⟩
    cases e with
    | normal =>
      refine vcS_mono ?_ (ihb h)
      intro e ρ'' w'' ⟨h2, ho2⟩
      exact ⟨h2, Off.trans (ho.mono (by intro i hi; simp only [wrS, List.mem_append]; exact .inl hi)) (ho2.mono (by intro i hi; simp only [wrS, List.mem_append]; exact .inr hi))⟩
    | _ => exact ⟨h, ho.mono (by intro i hi; simp only [wrS, List.mem_append]; exact .inl hi)⟩
  | cond c a b iha ihb =>
    intro Q ρ w h
    refine condP_mono (fun h => ?_) (fun h => ?_) h
    · exact vcS_mono (fun e ρ' w' h => ⟨h.1, h.2.mono (by intro i hi; simp only [wrS, List.mem_append]; exact .inl hi)⟩) (iha h)
    · exact vcS_mono (fun e ρ' w' h => ⟨h.1, h.2.mono (by intro i hi; simp only [wrS, List.mem_append]; exact .inr hi)⟩) (ihb h)
  | blk id a ih =>
    intro Q ρ w h
    show vcS P a _ ρ w
    refine vcS_mono ?_ (ih h)
    intro e ρ' w' ⟨h, ho⟩
    cases e with
    | exit i =>
      simp only [blkQ] at h ⊢
      split at h
      · rename_i hc; rw [if_pos hc]; exact ⟨h, ho⟩
      · rename_i hc; rw [if_neg hc]; exact ⟨h, ho⟩
    | _ => exact ⟨h, ho⟩
  | loop a ih =>
    intro Q ρ w h
    obtain ⟨I, ⟨n0, h0⟩, hr⟩ := h
    refine ⟨fun n ρ' w' => I n ρ' w' ∧ Off (wrS a) ρ ρ', ⟨n0, h0, Off.refl _ _⟩, ?_⟩
    intro n ρ1 w1 ⟨hi, ho⟩
    refine vcS_mono ?_ (ih (hr n ρ1 w1 hi))
    intro e ρ2 w2 ⟨h, ho2⟩
    cases e with
    | normal => obtain ⟨n', hn, h⟩ := h; exact ⟨n', hn, h, Off.trans ho ho2⟩
    | _ => exact ⟨h, Off.trans ho ho2⟩
  | exit id => intro Q ρ w h; exact ⟨h, Off.refl _ _⟩
  | ret => intro Q ρ w h; exact ⟨h, Off.refl _ _⟩
  | bad => intro Q ρ w h; exact h
  | rng M x ps as bd a b =>
    intro Q ρ w h
    refine rngP_mono (fun w' h => ⟨h, fun i hi => ?_⟩) h
    have : ¬ i = M := by simpa [wrS] using hi
    simp [up, this]

/-! ### Functions -/
inductive RV where
  | t (s : Nat) | ld (s : Nat) | ldN (n s : Nat)
structure SF where
  n : Nat
  k : Nat
  res : List RV
  body : S
def trR (P : Program) (N : Nat) : ResultVar → Option RV
  | .tmp s => if s < N then some (.t s) else none
  | .cell s t => if s < N then (match P.underlying t with | some d => if isAggB d then (szOf P t).map (.ldN · s) else some (.ld s) | none => none) else none
def trRs (P : Program) (N : Nat) : List ResultVar → Option (List RV)
  | [] => some []
  | x :: r => (trR P N x).bind fun a => (trRs P N r).map (a :: ·)
def trF (P : Program) (hs : Hints) (f : Nat) : Option SF :=
  (P.funcs[f]?).bind fun fn => fn.body.bind fun c => (trRs P fn.ntmps fn.results.toList).bind fun rs => if fn.params.size + fn.nfree ≤ fn.ntmps then some ⟨fn.ntmps, fn.params.size + fn.nfree, rs, trS P fn.ntmps hs c⟩ else none

def tupV : List Value → Value
  | [v] => v
  | vs => .tuple vs.toArray
def resP : List RV → Env → World → (List Value → Prop) → Prop
  | [], _, _, k => k []
  | .t s :: r, ρ, w, k => resP r ρ w fun vs => k (ρ s :: vs)
  | .ld s :: r, ρ, w, k => seqO (ldV w (ρ s)) fun v => resP r ρ w fun vs => k (v :: vs)
  | .ldN n s :: r, ρ, w, k => seqO (ldNV w n (ρ s)) fun v => resP r ρ w fun vs => k (v :: vs)
def valsOf (v : Value) : List Value := match v with | .tuple vs => vs.toList | _ => []
theorem valsOf_dfrs (v : Value) : dfrs v = (valsOf v).map dfr1 := by cases v <;> rfl
/-- A call that was put off. -/
def dfrP (P : Program) (f : FuncId) (args : List Value) (w : World) (k : World → Prop) : Prop := CallsDIn (fz none) 0 P f args.toArray .returning w fun e u' w' => u' = .returning ∧ ∃ v, e = .returned v ∧ k w'
/-- What is done behind a body's end. -/
def finP (P : Program) : List Value → World → (World → Prop) → Prop
  | [], w, k => k w
  | .int _ D :: r, w, k => w.heap[D.toNat]? = some (.deferred (some [])) ∧ finP P r (w.putObj D.toNat (.deferred none)) k
  | .func (.func f) first cap :: r, w, k => okFn P f = true ∧ dfrP P f (first.toList ++ cap.toList) w fun w' => finP P r w' k
  | _, _, _ => False
def retQ (P : Program) (N : Nat) (rs : List RV) (R : Value → World → Prop) : Post := fun e ρ w => match e with | .normal | .ret => finP P (valsOf (ρ N)) w fun w => resP rs ρ w fun vs => R (tupV vs) w | _ => False
def ini : List Value → Env
  | [], _ => undef
  | v :: r, i => if i = 0 then v else ini r (i - 1)
theorem ini_get (l : List Value) (i : Nat) : ini l i = (l[i]?).getD undef := by
  induction l generalizing i with
  | nil => rfl
  | cons v r ih =>
    simp only [ini]
    cases i with
    | zero => rfl
    | succ i => simp [ih]
theorem ini_act (args : List Value) (h : args.length ≤ N) : ({ tmps := args.toArray ++ Array.replicate (N - args.toArray.size) undef, defers := [] } : Act) = act N (ini args) := by
  simp only [act]
  have hu : ini args N = undef := by rw [ini_get, List.getElem?_eq_none h]; rfl
  rw [hu]
  congr 1
  apply Array.ext_getElem?
  intro i
  rw [Array.getElem?_append]
  simp only [List.size_toArray, List.getElem?_toArray, Array.getElem?_replicate, Array.getElem?_map, Array.getElem?_range]
  by_cases hi : i < args.length
  · have : i < N := by omega
    simp [hi, this, ini_get]
  · simp only [hi, if_false]
    by_cases h2 : i < N
    · have : i - args.length < N - args.length := by omega
      simp [h2, this, ini_get, List.getElem?_eq_none (Nat.le_of_not_lt hi)]
    · have : ¬ i - args.length < N - args.length := by omega
      simp [h2, this]

theorem asAddr_ptr (a : Addr) : asAddr (.pointer (some a)) = pure a := rfl
theorem resP_ok {rs : List ResultVar} : ∀ {l : List RV} {k : List Value → Prop}, trRs P N rs = some l → resP l ρ w k → ∃ vs, (rs.mapM (m := Sem) fun
    | .tmp t => pure ((act N ρ).tmps.getD t undef)
    | .cell a t => do loadVar t (← asAddr ((act N ρ).tmps.getD a undef))).run P w = .ok vs w ∧ k vs := by
  induction rs with
  | nil => intro l k h hk; injection h with h; subst h; exact ⟨[], by simp, hk⟩
  | cons x r ih =>
    intro l k h hk
    simp only [trRs, Option.bind_eq_some_iff, Option.map_eq_some_iff] at h
    obtain ⟨a, ha, l', hl', rfl⟩ := h
    cases x with
    | tmp s =>
      simp only [trR] at ha
      split at ha
      · rename_i hs
        injection ha with ha; subst ha
        obtain ⟨vs, h1, h2⟩ := ih hl' hk
        refine ⟨_, ?_, h2⟩
        simp only [List.mapM_cons, Sem.run_bind, Sem.run_pure, Result.andThen_ok]
        rw [h1, act_get N ρ s hs]
        simp
      · cases ha
    | cell s t =>
      simp only [trR] at ha
      split at ha
      · rename_i hs
        split at ha
        · rename_i d hd
          split at ha
          · rename_i hag
            simp only [Option.map_eq_some_iff] at ha
            obtain ⟨n, hn, rfl⟩ := ha
            obtain ⟨v, hv, hk⟩ := seqO_ex hk
            obtain ⟨vs, h1, h2⟩ := ih hl' hk
            refine ⟨_, ?_, h2⟩
            have hv' : ldNV w n ((act N ρ).tmps.getD s undef) = some v := by rw [act_get N ρ s hs]; exact hv
            unfold ldNV at hv'
            split at hv'
            · rename_i ad had
              rw [Option.map_eq_some_iff] at hv'
              obtain ⟨c, hc, rfl⟩ := hv'
              have hl := lds_run (P := P) ad n 0 c #[] hc
              have hlv : (loadVar t ad).run P w = .ok (.agg c.toArray) w := by
                simp only [loadVar, Sem.run_bind, isAgg_run hd, hag, if_true, szOf_run hn, Result.andThen_ok, loadCells, hl]
                simp
              simp only [List.mapM_cons, Sem.run_bind, had, asAddr_ptr, Sem.run_pure, Result.andThen_ok, hlv]
              rw [h1]
              simp
            · cases hv'
          · rename_i hag
            injection ha with ha; subst ha
            obtain ⟨v, hv, hk⟩ := seqO_ex hk
            obtain ⟨vs, h1, h2⟩ := ih hl' hk
            refine ⟨_, ?_, h2⟩
            have hv' : ldV w ((act N ρ).tmps.getD s undef) = some v := by rw [act_get N ρ s hs]; exact hv
            unfold ldV at hv'
            split at hv'
            · rename_i ad had
              have hlv : (loadVar t ad).run P w = .ok v w := by
                simp only [loadVar, Sem.run_bind, isAgg_run hd, hag, Bool.false_eq_true, if_false, Result.andThen_ok]
                simp [load, Sem.run, hv']
              simp only [List.mapM_cons, Sem.run_bind, had, asAddr_ptr, Sem.run_pure, Result.andThen_ok, hlv]
              rw [h1]
              simp
            · cases hv'
        · cases ha
      · cases ha

theorem fin_ok {fn : Func} {tmps : Array Value} {R : Ending → World → Prop} : ∀ {l : List Value} {w : World}, finP P l w (fun w => ∃ v, (results fn tmps).run P w = .ok v w ∧ R (.returned v) w) → LeavesInM (fz none) 0 P fn tmps R (l.map dfr1) .returning w
  | [], w, h => h
  | x :: r, w, h => by
    unfold finP at h
    split at h
    · rename_i heq; cases heq
    · rename_i k D r' heq
      injection heq with e1 e2
      subst e1; subst e2
      exact ⟨by simp, .inl ⟨D.toNat, _, rfl, run_takeDeferred h.1, fin_ok h.2⟩⟩
    · rename_i f first cap r' heq
      injection heq with e1 e2
      subst e1; subst e2
      obtain ⟨hok, h⟩ := h
      refine ⟨by simp, .inr ⟨fz_depth, .func f, cap, f, (first.toList ++ cap.toList).toArray, rfl, ?_, fun _ _ => trivial, ?_⟩⟩
      · show (invoke (.fn (.func f) cap) first).run P _ = _
        simp only [invoke]
        have e : first ++ cap = (first.toList ++ cap.toList).toArray := by rw [← Array.toList_inj]; simp
        rw [e]
        exact okFn_run hok
      · refine CallsDIn.mono h ?_
        rintro e u' w' ⟨rfl, v, rfl, hk⟩
        exact fin_ok hk
    · exact h.elim
theorem finP_mono : ∀ {l : List Value} {w : World} {k k' : World → Prop}, (∀ w, k w → k' w) → finP P l w k → finP P l w k'
  | [], w, k, k', hk, h => hk _ h
  | x :: r, w, k, k', hk, h => by
    unfold finP at h
    split at h
    · rename_i heq; cases heq
    · rename_i kd D r' heq
      injection heq with e1 e2
      subst e1; subst e2
      exact ⟨h.1, finP_mono hk h.2⟩
    · rename_i f first cap r' heq
      injection heq with e1 e2
      subst e1; subst e2
      refine ⟨h.1, CallsDIn.mono h.2 ?_⟩
      rintro e u' w' ⟨hu, v, he, hh⟩
      exact ⟨hu, v, he, finP_mono hk hh⟩
    · exact h.elim
/-- A function's contract, out of what its body asks. -/
theorem fn_ok {f : FuncId} {sf : SF} {args : List Value} {R : Value → World → Prop} (hf : trF P hs f = some sf) (ha : args.length = sf.k) (h : vcS P sf.body (retQ P sf.n sf.res R) (ini args) w) : callP P f args w R := by
  simp only [trF, Option.bind_eq_some_iff] at hf
  obtain ⟨fn, hfn, c, hc, rs, hrs, hf⟩ := hf
  split at hf
  · rename_i hle
    injection hf with hf; subst hf
    refine callsIn_wide (n := 0).1 (callsIn_of_wp_marks hfn hc trivial ?_)
    rw [ini_act args (by simp only at ha; omega)]
    refine wpIn_mono (vcS_ok (ro := none) (.inl rfl) h) ?_
    rintro e _ w' ⟨ρ, rfl, hq⟩
    have key : finP P (valsOf (ρ fn.ntmps)) w' (fun w' => resP rs ρ w' (fun vs => R (tupV vs) w')) → LeavesInM (fz none) 0 P fn (act fn.ntmps ρ).tmps (fun e w' => ∃ v, e = .returned v ∧ R v w') (act fn.ntmps ρ).defers .returning w' := by
      intro hq
      show LeavesInM (fz none) 0 P fn (act fn.ntmps ρ).tmps (fun e w' => ∃ v, e = .returned v ∧ R v w') (dfrs (ρ fn.ntmps)) .returning w'
      rw [valsOf_dfrs]
      refine fin_ok (finP_mono (fun w' hq => ?_) hq)
      obtain ⟨vs, h1, h2⟩ := resP_ok hrs hq
      refine ⟨tupV vs, ?_, _, rfl, h2⟩
      have h3 : (fn.results.mapM (m := Sem) fun
          | .tmp t => pure ((act fn.ntmps ρ).tmps.getD t undef)
          | .cell a t => do loadVar t (← asAddr ((act fn.ntmps ρ).tmps.getD a undef))).run P w' = .ok vs.toArray w' := by
        have : fn.results = fn.results.toList.toArray := by simp
        rw [this, List.mapM_toArray, Sem.run_map, h1]
        rfl
      simp only [results, Sem.run_bind]
      refine Eq.trans (congrArg (fun (r : Result (Array Value)) => r.andThen fun a w' => Sem.run P (pure (if h : a.size = 1 then a[0] else Value.tuple a)) w') h3) ?_
      simp only [Result.andThen_ok, Sem.run_pure]
      congr 1
      match vs with
      | [] => rfl
      | [v] => rfl
      | a :: b :: r => simp [tupV]
    cases e with
    | normal => exact key hq
    | ret => exact key hq
    | _ => exact hq.elim
  · cases hf
/-- The same of a function that is called at an end, and puts nothing off itself. -/
theorem fnD_ok {f : FuncId} {sf : SF} {args : List Value} {R : World → Prop} (hf : trF P hs f = some sf) (ha : args.length = sf.k) (hn : (wrS sf.body).contains sf.n = false) (h : vcS P sf.body (retQ P sf.n sf.res fun _ w => R w) (ini args) w) : dfrP P f args w R := by
  simp only [trF, Option.bind_eq_some_iff] at hf
  obtain ⟨fn, hfn, c, hc, rs, hrs, hf⟩ := hf
  split at hf
  · rename_i hle
    injection hf with hf; subst hf
    refine CallsDIn.mono (R := fun e u' w' => u' = .returning ∧ ∃ v, e = .returned v ∧ R w') (callsDIn_of_wp hfn hc trivial ?_) (fun _ _ _ h => h)
    rw [ini_act args (by simp only at ha; omega)]
    refine wpIn_mono (vcS_ok (ro := none) (.inl rfl) (vcS_off h)) ?_
    rintro e _ w' ⟨ρ, rfl, hq, hoff⟩
    have hN : ρ fn.ntmps = undef := by
      rw [hoff fn.ntmps (fun hm => by
        have : (wrS (trS P fn.ntmps hs c)).contains fn.ntmps = true := by simpa using hm
        rw [this] at hn
        cases hn), ini_get, List.getElem?_eq_none (by simp only at ha; omega)]
      rfl
    have key : resP rs ρ w' (fun vs => R w') → (act fn.ntmps ρ).defers = [] ∧ ∃ v, (results fn (act fn.ntmps ρ).tmps).run P w' = .ok v w' ∧ ∃ v', (Ending.returned v) = .returned v' ∧ R w' := by
      intro hq
      refine ⟨by show dfrs (ρ fn.ntmps) = []; rw [hN]; rfl, ?_⟩
      obtain ⟨vs, h1, h2⟩ := resP_ok hrs hq
      refine ⟨tupV vs, ?_, _, rfl, h2⟩
      have h3 : (fn.results.mapM (m := Sem) fun
          | .tmp t => pure ((act fn.ntmps ρ).tmps.getD t undef)
          | .cell a t => do loadVar t (← asAddr ((act fn.ntmps ρ).tmps.getD a undef))).run P w' = .ok vs.toArray w' := by
        have : fn.results = fn.results.toList.toArray := by simp
        rw [this, List.mapM_toArray, Sem.run_map, h1]
        rfl
      simp only [results, Sem.run_bind]
      refine Eq.trans (congrArg (fun (r : Result (Array Value)) => r.andThen fun a w' => Sem.run P (pure (if h : a.size = 1 then a[0] else Value.tuple a)) w') h3) ?_
      simp only [Result.andThen_ok, Sem.run_pure]
      congr 1
      match vs with
      | [] => rfl
      | [v] => rfl
      | a :: b :: r => simp [tupV]
    have fin : finP P (valsOf (ρ fn.ntmps)) w' (fun w => resP rs ρ w fun vs => R w) → resP rs ρ w' (fun vs => R w') := by
      rw [hN]; exact fun h => h
    cases e with
    | normal => exact key (fin hq)
    | ret => exact key (fin hq)
    | _ => exact hq.elim
  · cases hf
theorem callP_mono {f : FuncId} {args : List Value} {k k' : Value → World → Prop} (h : callP P f args w k) (hk : ∀ v w', k v w' → k' v w') : callP P f args w k' :=
  Calls.mono (R := fun e w' => ∃ v, e = .returned v ∧ k v w') h fun _ _ ⟨v, he, hh⟩ => ⟨v, he, hk _ _ hh⟩
end
end Go.Proofs.YtmgdkoidgoihfaaGreatDoor.E
