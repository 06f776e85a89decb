/- The calculus of code: what a body asks, that this is sound, what stays as it was. Conditions: none. -/
import Derived.Test.YtfiknjogkpbgdaaE7
import Derived.Deep.Quiet
namespace Go.Proofs.Ytfiknjogkpbgdaa.E
open Go.RowKit

structure St where
  dst : Option Nat
  grd : Option (Nat × Bool)
  ins : Ins
inductive S where
  | skip | ops (l : List St) | dops (l : List St) | dcall (l : List St)
  | seq (a b : S) | cond (c : Arg) (a b : S) | blk (id : Nat) (a : S) | loop (a : S) | exit (id : Nat) | ret | bad

def ro : Ins → Bool
  | .mov _ | .pick _ _ _ | .bin _ _ _ | .sft _ _ _ | .eq _ _ _ _ | .eqi _ _ _ | .un _ _ | .load _ | .loadN _ _ | .build _ _ | .nck _ | .fld _ _ | .get1 _ _ | .getN _ _ _
  | .idx _ _ _ | .idxA _ _ _ _ | .ixS _ _ | .subS _ _ _ | .subL _ _ _ _ | .subA _ _ _ _ _ | .cvi _ _ | .cvSS _ | .mkf _ _ _ | .ext _ _ | .len _ _ | .min2 _ _ | .max2 _ _ => true
  | _ => false
def isCall : Ins → Bool
  | .call _ _ | .callv _ _ => true
  | _ => false

def trO (P : Program) (N : Nat) (ops : Array Oper) (o : Oper) : St :=
  match o.guard with
  | none => ⟨o.dst, none, trI P N o⟩
  | some (j, want) =>
    match (ops[j]?).bind (·.dst) with
    | some s => if s < N then ⟨o.dst, some (s, want), trI P N o⟩ else ⟨o.dst, none, .bad⟩
    | none => ⟨o.dst, none, .bad⟩
def trS (P : Program) (N : Nat) : Code → S
  | .skip => .skip
  | .region _ ops false => .ops (ops.toList.map (trO P N ops))
  | .region _ ops true =>
    if P.follows .mixedOrders && Region.lexB .any ops then (if (ops.toList.map (trO P N ops)).all (fun s => ro s.ins) then .dops (ops.toList.map (trO P N ops)) else .dcall (ops.toList.map (trO P N ops))) else .bad
  | .seq a b => .seq (trS P N a) (trS P N b)
  | .cond c a b => match trA N c with | some c => .cond c (trS P N a) (trS P N b) | none => .bad
  | .block id a => .blk id (trS P N a)
  | .loop a => .loop (trS P N a)
  | .exit id => .exit id
  | .ret => .ret
  | _ => .bad

abbrev Post := Exit → Env → World → Prop
def thenQ (K : Env → World → Prop) (Q : Post) : Post := fun e ρ w => match e with | .normal => K ρ w | e => Q e ρ w
def blkQ (id : Nat) (Q : Post) : Post := fun e ρ w => match e with | .exit i => if i = id then Q .normal ρ w else Q (.exit i) ρ w | e => Q e ρ w
def grdP (v : Value) (want : Bool) (X Y : Prop) : Prop := match v with | .bool b => if b = want then X else Y | _ => Y
def condP (v : Value) (X Y : Prop) : Prop := match v with | .bool true => X | .bool false => Y | _ => False
theorem grdP_mono {v : Value} {want : Bool} {X Y X' Y' : Prop} (hx : X → X') (hy : Y → Y') (h : grdP v want X Y) : grdP v want X' Y' := by
  unfold grdP at *
  split at h
  · split at h
    · rename_i hc; rw [if_pos hc]; exact hx h
    · rename_i hc; rw [if_neg hc]; exact hy h
  · exact hy h
theorem condP_mono {v : Value} {X Y X' Y' : Prop} (hx : X → X') (hy : Y → Y') (h : condP v X Y) : condP v X' Y' := by
  unfold condP at *
  split at h
  · exact hx h
  · exact hy h
  · exact h.elim

def vcL (P : Program) : List St → Post → Env → World → Prop
  | [], Q, ρ, w => Q .normal ρ w
  | s :: r, Q, ρ, w =>
    match s.grd with
    | none => vcI P s.ins ρ w fun v w' => vcL P r Q (upd ρ s.dst v) w'
    | some (g, want) => grdP (ρ g) want (vcI P s.ins ρ w fun v w' => vcL P r Q (upd ρ s.dst v) w') (vcL P r Q (upd ρ s.dst undef) w)
/-- One walk for every order: each operation yields one value in every world of the class. -/
def vcQ (P : Program) (C : World → Prop) : List St → (Env → Prop) → Env → Prop
  | [], K, ρ => K ρ
  | s :: r, K, ρ =>
    match s.grd with
    | none => ∃ v, (∀ w, C w → vcI P s.ins ρ w fun u w' => u = v ∧ (if isCall s.ins then C w' else w' = w)) ∧ vcQ P C r K (upd ρ s.dst v)
    | some (g, want) => grdP (ρ g) want (∃ v, (∀ w, C w → vcI P s.ins ρ w fun u w' => u = v ∧ (if isCall s.ins then C w' else w' = w)) ∧ vcQ P C r K (upd ρ s.dst v)) (vcQ P C r K (upd ρ s.dst undef))

def vcS (P : Program) : S → Post → Env → World → Prop
  | .skip, Q, ρ, w => Q .normal ρ w
  | .ops l, Q, ρ, w => vcL P l Q ρ w
  | .dops l, Q, ρ, w => vcL P l (fun e ρ' _ => ∀ n, Q e ρ' (w.drewN n)) ρ w
  | .dcall l, Q, ρ, w => ∃ C : World → Prop, C w.drew ∧ vcQ P C l (fun ρ' => ∀ w', C w' → Q .normal ρ' w') ρ
  | .seq a b, Q, ρ, w => vcS P a (thenQ (vcS P b Q) Q) ρ w
  | .cond c a b, Q, ρ, w => condP (c.ev ρ) (vcS P a Q ρ w) (vcS P b Q ρ w)
  | .blk id a, Q, ρ, w => vcS P a (blkQ id Q) ρ w
  | .loop a, Q, ρ, w => ∃ (I : Env → World → Prop) (μ : Env → World → Nat), I ρ w ∧ ∀ ρ w, I ρ w → vcS P a (thenQ (fun ρ' w' => I ρ' w' ∧ μ ρ' w' < μ ρ w) Q) ρ w
  | .exit id, Q, ρ, w => Q (.exit id) ρ w
  | .ret, Q, ρ, w => Q .ret ρ w
  | .bad, _, _, _ => False

section
variable {P : Program} {N : Nat} {ρ : Env} {w : World}

def lift (N : Nat) (Q : Post) : Exit → Act → World → Prop := fun e a w => ∃ ρ, a = act N ρ ∧ Q e ρ w

theorem vcI_mono {i : Ins} {k k' : Value → World → Prop} (hk : ∀ v w, k v w → k' v w) (h : vcI P i ρ w k) : vcI P i ρ w k' := by
  cases i
  case mov => exact hk _ _ h
  case alloc => exact hk _ _ h
  case box => exact hk _ _ h
  case mkf => exact hk _ _ h
  case mkm => exact hk _ _ h
  case bad => exact h.elim
  case mks e sz bytes z l c =>
    replace h : mksP e sz bytes z (l.ev ρ) (c.ev ρ) w k := h
    show mksP e sz bytes z (l.ev ρ) (c.ev ρ) w k'
    unfold mksP at *
    split at h
    · exact ⟨h.1, h.2.1, h.2.2.1, h.2.2.2.1, h.2.2.2.2.1, h.2.2.2.2.2.1, hk _ _ h.2.2.2.2.2.2⟩
    · exact h.elim
  case cvBS x =>
    replace h : cvBSP w (x.ev ρ) (fun v => k v w) := h
    show cvBSP w (x.ev ρ) (fun v => k' v w)
    unfold cvBSP at *
    split at h
    · exact hk _ _ h
    · obtain ⟨l, h1, h2, h3⟩ := h; exact ⟨l, h1, h2, hk _ _ h3⟩
    · exact h.elim
  case call f as => exact Calls.mono (R := fun e w' => ∃ v, e = .returned v ∧ k v w') h fun e w' ⟨v, he, hh⟩ => ⟨v, he, hk _ _ hh⟩
  case callv x as =>
    replace h : callvP P (x.ev ρ) (argsV ρ as) w k := h
    show callvP P (x.ev ρ) (argsV ρ as) w k'
    unfold callvP at *
    split at h
    · exact ⟨h.1, Calls.mono (R := fun e w' => ∃ v, e = .returned v ∧ k v w') h.2 fun e w' ⟨v, he, hh⟩ => ⟨v, he, hk _ _ hh⟩⟩
    · exact h.elim
  case app t u x y => obtain ⟨v, w', h1, h2⟩ := h; exact ⟨v, w', h1, hk _ _ h2⟩
  case cpy t u x y => obtain ⟨v, w', h1, h2⟩ := h; exact ⟨v, w', h1, hk _ _ h2⟩
  all_goals exact seqO_mono (fun _ hh => hk _ _ hh) h

theorem vcL_mono : ∀ {l : List St} {Q Q' : Post} {ρ : Env} {w : World}, (∀ e ρ w, Q e ρ w → Q' e ρ w) → vcL P l Q ρ w → vcL P l Q' ρ w
  | [], _, _, _, _, hq, h => hq _ _ _ h
  | s :: r, Q, Q', ρ, w, hq, h => by
    simp only [vcL] at h ⊢
    split at h
    · rename_i hg; exact vcI_mono (fun v w h => vcL_mono hq h) h
    · rename_i hg; exact grdP_mono (fun h => vcI_mono (fun v w h => vcL_mono hq h) h) (vcL_mono hq) h
theorem vcQ_mono {C : World → Prop} : ∀ {l : List St} {K K' : Env → Prop} {ρ : Env}, (∀ ρ, K ρ → K' ρ) → vcQ P C l K ρ → vcQ P C l K' ρ
  | [], _, _, _, hq, h => hq _ h
  | s :: r, K, K', ρ, hq, h => by
    simp only [vcQ] at h ⊢
    split at h
    · rename_i hg; obtain ⟨v, h1, h2⟩ := h; exact ⟨v, h1, vcQ_mono hq h2⟩
    · rename_i hg; exact grdP_mono (fun ⟨v, h1, h2⟩ => ⟨v, h1, vcQ_mono hq h2⟩) (vcQ_mono hq) h
theorem thenQ_mono {K K' : Env → World → Prop} {Q Q' : Post} (hk : ∀ ρ w, K ρ w → K' ρ w) (hq : ∀ e ρ w, Q e ρ w → Q' e ρ w) (e : Exit) (ρ : Env) (w : World) (h : thenQ K Q e ρ w) : thenQ K' Q' e ρ w := by
  cases e with
  | normal => exact hk _ _ h
  | _ => exact hq _ _ _ h
theorem blkQ_mono {id : Nat} {Q Q' : Post} (hq : ∀ e ρ w, Q e ρ w → Q' e ρ w) (e : Exit) (ρ : Env) (w : World) (h : blkQ id Q e ρ w) : blkQ id Q' e ρ w := by
  cases e with
  | exit i =>
    simp only [blkQ] at h ⊢
    split at h
    · rename_i hc; simp [hc]; exact hq _ _ _ h
    · rename_i hc; simp [hc]; exact hq _ _ _ h
  | _ => exact hq _ _ _ h
theorem vcS_mono : ∀ {s : S} {Q Q' : Post} {ρ : Env} {w : World}, (∀ e ρ w, Q e ρ w → Q' e ρ w) → vcS P s Q ρ w → vcS P s Q' ρ w := by
  intro s
  induction s with
  | skip => intro Q Q' ρ w hq h; exact hq _ _ _ h
  | ops l => intro Q Q' ρ w hq h; exact vcL_mono hq h
  | dops l => intro Q Q' ρ w hq h; exact vcL_mono (Q := fun e ρ' _ => ∀ n, Q e ρ' (w.drewN n)) (fun e ρ _ h n => hq _ _ _ (h n)) h
  | dcall l => intro Q Q' ρ w hq h; obtain ⟨C, h1, h2⟩ := h; exact ⟨C, h1, vcQ_mono (fun ρ h w' hw => hq _ _ _ (h w' hw)) h2⟩
  | seq a b iha ihb => intro Q Q' ρ w hq h; exact iha (thenQ_mono (fun ρ w h => ihb hq h) hq) h
  | cond c a b iha ihb => intro Q Q' ρ w hq h; exact condP_mono (iha hq) (ihb hq) h
  | blk id a ih => intro Q Q' ρ w hq h; exact ih (blkQ_mono hq) h
  | loop a ih =>
    intro Q Q' ρ w hq h
    obtain ⟨I, μ, h0, hr⟩ := h
    exact ⟨I, μ, h0, fun ρ w hi => ih (thenQ_mono (fun _ _ h => h) hq) (hr ρ w hi)⟩
  | exit id => intro Q Q' ρ w hq h; exact hq _ _ _ h
  | ret => intro Q Q' ρ w hq h; exact hq _ _ _ h
  | bad => intro Q Q' ρ w hq h; exact h

/-! ### Soundness -/
def boolOf : Value → Option Bool | .bool b => some b | _ => none
theorem act_yield {ops : Array Oper} {j s : Nat} (h : (ops[j]?).bind (·.dst) = some s) (hs : s < N) : yielded ops (act N ρ).tmps j = boolOf (ρ s) := by
  unfold yielded
  rw [h]
  have : (act N ρ).tmps[s]? = some (ρ s) := by simp [act, hs]
  simp only [Option.bind_some, this]
  cases ρ s <;> rfl

theorem vcL_ok {ops : Array Oper} {Q : Post} : ∀ {l : List Oper} {ρ : Env} {w : World}, vcL P (l.map (trO P N ops)) Q ρ w → wpList P ops (lift N Q) l (act N ρ) w
  | [], ρ, w, h => ⟨ρ, rfl, h⟩
  | o :: r, ρ, w, h => by
    have ih := @vcL_ok ops Q r
    simp only [List.map_cons, vcL] at h
    unfold wpList
    have run : vcI P (trI P N o) ρ w (fun v w' => vcL P (r.map (trO P N ops)) Q (upd ρ o.dst v) w') → Oper.wp P o (act N ρ) w (wpList P ops (lift N Q) r) (lift N Q) := by
      intro hh
      refine Goes.wp (trI_ok (vcI_mono (fun v w' hv => ?_) hh))
      rw [act_put]
      exact ih hv
    cases hg : o.guard with
    | none =>
      simp only [trO, hg] at h
      rw [if_pos (by simp [Region.wanted, hg])]
      exact .inl (run h)
    | some jw =>
      obtain ⟨j, want⟩ := jw
      cases hb : (ops[j]?).bind (·.dst) with
      | none => simp only [trO, hg, hb] at h; exact h.elim
      | some s =>
        by_cases hs : s < N
        · simp only [trO, hg, hb, hs, if_true] at h
          have hy := act_yield (ρ := ρ) hb hs
          have hwant : Region.wanted o (yielded ops (act N ρ).tmps) = (boolOf (ρ s) == some want) := by
            simp only [Region.wanted, hg, hy]
          rw [hwant]
          have hskip : vcL P (r.map (trO P N ops)) Q (upd ρ o.dst undef) w → wpList P ops (lift N Q) r ((act N ρ).put o.dst undef) w := by
            intro hh
            rw [act_put]
            exact ih hh
          unfold grdP at h
          split at h
          · rename_i b hv
            split at h
            · rename_i hbw; subst hbw
              rw [if_pos (by simp [hv, boolOf])]
              exact .inl (run h)
            · rename_i hbw
              rw [if_neg (by simp [hv, boolOf, hbw])]
              exact hskip h
          · rename_i hv
            rw [if_neg (by
              have : boolOf (ρ s) = none := by
                unfold boolOf
                split
                · rename_i b hb'; exact (hv b hb').elim
                · rfl
              simp [this])]
            exact hskip h
        · simp only [trO, hg, hb, hs, if_false] at h; exact h.elim

theorem lds_drewN (w : World) (a : Addr) (m : Nat) : ∀ (n i : Nat), ldsV (w.drewN m) a i n = ldsV w a i n
  | 0, _ => rfl
  | n + 1, i => by
    simp only [ldsV, lds_drewN w a m n (i + 1)]
    rfl
theorem ldN_drewN (w : World) (m n : Nat) (v : Value) : ldNV (w.drewN m) n v = ldNV w n v := by
  unfold ldNV
  split
  · rw [lds_drewN]
  · rfl
theorem ro_val {i : Ins} {k : Value → World → Prop} (hr : ro i = true) (h : vcI P i ρ w k) : ∃ v, k v w ∧ ∀ n, vcI P i ρ (w.drewN n) fun u w' => u = v ∧ w' = w.drewN n := by
  cases i <;> simp only [ro, Bool.false_eq_true] at hr
  case mov => exact ⟨_, h, fun n => ⟨rfl, rfl⟩⟩
  case mkf => exact ⟨_, h, fun n => ⟨rfl, rfl⟩⟩
  all_goals
    obtain ⟨v, hv, hk⟩ := seqO_ex h
    refine ⟨_, hk, fun n => ?_⟩
    first
      | (show seqO _ _; rw [hv]; exact ⟨rfl, rfl⟩)
      | (show seqO (ldV w _) _; rw [hv]; exact ⟨rfl, rfl⟩)
      | (show seqO (ldNV _ _ _) _; rw [ldN_drewN, hv]; exact ⟨rfl, rfl⟩)

theorem quietUpon_of {C : World → Prop} {v : Value} {r : Result Next} (hw : C w) (h : Goes P w (fun u w' => u = v ∧ w' = w) r) : Oper.quietUpon P C w v r := by
  cases r with
  | halt x w' => exact h.elim
  | ok n w' =>
    cases n with
    | value u => exact ⟨h.2, h.1⟩
    | skip => exact ⟨h.2, h.1.symm⟩
    | enter f args =>
      obtain ⟨rfl, h⟩ := h
      refine ⟨rfl, Calls.mono h ?_⟩
      rintro e w'' ⟨u, rfl, rfl, rfl⟩
      exact ⟨rfl, hw⟩
    | _ => exact h.elim
theorem quietUpon_call {C : World → Prop} {v : Value} {r : Result Next} (h : Goes P w (fun u w' => u = v ∧ C w') r) (hn : ∃ f args w', r = .ok (.enter f args) w') : Oper.quietUpon P C w v r := by
  obtain ⟨f, args, w', rfl⟩ := hn
  obtain ⟨rfl, h⟩ := h
  refine ⟨rfl, Calls.mono h ?_⟩
  rintro e w'' ⟨u, rfl, rfl, hc⟩
  exact ⟨rfl, hc⟩

theorem A1_nc {x : Option Arg} {f : Arg → Ins} (h : ∀ a, isCall (f a) = false) : isCall (A1 x f) = false := by
  cases x with
  | none => rfl
  | some a => exact h a
theorem elim_nc {α : Type} {x : Option α} {f : α → Ins} (h : ∀ a, isCall (f a) = false) : isCall (x.elim .bad f) = false := by
  cases x with
  | none => rfl
  | some a => exact h a
theorem trLoad_call (t : TypeId) (x : Arg) : isCall (trLoad P t x) = false := by
  unfold trLoad; repeat' split
  all_goals rfl
theorem trEq_call (neg : Bool) (t : TypeId) (c : Bool) (x y : Arg) : isCall (trEq P neg t c x y) = false := by
  unfold trEq; repeat' split
  all_goals rfl
theorem trBin_call (op : BinOp) (t : TypeId) (c : Bool) (x y : Arg) : isCall (trBin P op t c x y) = false := by
  unfold trBin; repeat' split
  all_goals first | rfl | exact trEq_call _ _ _ _ _
theorem trSlice_call (t : TypeId) (x : Arg) (lo hi : Option Arg) : isCall (trSlice P t x lo hi) = false := by
  unfold trSlice; repeat' split
  all_goals rfl
theorem trConv_call (s t : TypeId) (x : Arg) : isCall (trConv P s t x) = false := by
  unfold trConv; repeat' split
  all_goals rfl
theorem nc {o : Oper} (h : ∀ c, o.op ≠ .call c) : isCall (trI P N o) = false := by
  unfold trI
  split
  case h_23 c hop => exact absurd hop (h c)
  all_goals repeat' (first | with_reducible rfl | exact trLoad_call _ _ | exact trBin_call _ _ _ _ _ | exact trSlice_call _ _ _ _ | exact trConv_call _ _ _ | (refine A1_nc fun _ => ?_) | (refine elim_nc fun _ => ?_) | split)
  all_goals rfl
theorem nc_builtin {c : Call} {b : Builtin} (h : c.callee = .builtin b) : isCall (trCall P N c) = false := by
  unfold trCall
  rw [h]
  cases b <;> dsimp only <;> first | with_reducible rfl | skip
  all_goals repeat' (first | with_reducible rfl | (refine A1_nc fun _ => ?_) | split)
  all_goals rfl
theorem call_inv {o : Oper} (h : isCall (trI P N o) = true) : ∃ c f, o.op = .call c ∧ c.callee = .value f := by
  cases hop : o.op
  case call c =>
    cases hcl : c.callee with
    | value f => exact ⟨c, f, rfl, hcl⟩
    | invoke r m =>
      have : trI P N o = .bad := by simp only [trI, hop, trCall, hcl]
      rw [this] at h; cases h
    | builtin b =>
      have : isCall (trI P N o) = false := by simp only [trI, hop]; exact nc_builtin hcl
      rw [this] at h; cases h
  all_goals
    exfalso
    have := nc (P := P) (N := N) (o := o) (by intro c hc; rw [hop] at hc; cases hc)
    rw [this] at h
    cases h

theorem call_enter {o : Oper} {k : Value → World → Prop} (hc : isCall (trI P N o) = true) (h : vcI P (trI P N o) ρ w k) : ∃ f args w', (execOp (act N ρ).eval o).run P w = .ok (.enter f args) w' := by
  obtain ⟨c, f, hop, hcl⟩ := call_inv hc
  simp only [trI, hop] at h
  simp only [execOp, hop]
  simp only [trCall, hcl] at h
  obtain ⟨fa, hfa, h⟩ := A1_ok h
  obtain ⟨as, has, h⟩ := elim_ok h
  split at h
  · rename_i g
    split at h
    · rename_i hok
      simp only [resolve, hcl, Act.eval, Deferred.ofValue, Sem.run_bind, Sem.run_pure, Result.andThen_ok, invoke, Array.append_empty, Array.empty_append, okFn_run hok]
      exact ⟨_, _, _, rfl⟩
    · exact h.elim
  · replace h : callvP P (fa.ev ρ) (argsV ρ as) w k := h
    unfold callvP at h
    split at h
    · rename_i g first cap hf
      obtain ⟨hok, h⟩ := h
      simp only [resolve, hcl, trA_ev hfa, hf, Deferred.ofValue, Sem.run_bind, Sem.run_pure, Result.andThen_ok, invoke, okFn_run hok]
      exact ⟨_, _, _, rfl⟩
    · exact h.elim
end
end Go.Proofs.Ytfiknjogkpbgdaa.E
