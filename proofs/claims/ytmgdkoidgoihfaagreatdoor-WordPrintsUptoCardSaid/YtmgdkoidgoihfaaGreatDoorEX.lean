/- A region whose order is open: one walk, in an order of our choice, serves every order, where a load is looked at again behind each step that may come ahead of it. Conditions: none. -/
import Derived.Test.YtmgdkoidgoihfaaGreatDoorE8
namespace Go.Proofs.YtmgdkoidgoihfaaGreatDoor.E
open Go.RowKit

/-- 0: it looks at slots alone; 1: it loads; 2: all else. -/
def cls : Ins → Nat
  | .mov _ | .pick _ _ _ | .bin _ _ _ | .sft _ _ _ | .eq _ _ _ _ | .eqi _ _ _ | .un _ _ | .build _ _ | .nck _ | .fld _ _ | .get1 _ _ | .getN _ _ _
  | .idx _ _ _ | .idxA _ _ _ _ | .ixS _ _ | .subS _ _ _ | .subL _ _ _ _ | .subA _ _ _ _ _ | .cvi _ _ | .cvSS _ | .mkf _ _ _ | .ext _ _ | .len _ _ | .min2 _ _ | .max2 _ _ => 0
  | .load _ | .loadN _ _ => 1
  | _ => 2
def argR : Arg → List Nat | .t n => [n] | .v _ => []
def optR : Option Arg → List Nat | some a => argR a | none => []
def insR : Ins → List Nat
  | .mov x | .un _ x | .load x | .loadN _ x | .box _ x | .nck x | .fld _ x | .get1 _ x | .getN _ _ x | .cvi _ x | .cvBS x | .cvSS x | .ext _ x | .len _ x => argR x
  | .pick a b c => argR a ++ argR b ++ argR c
  | .bin _ x y | .sft _ x y | .eq _ _ x y | .eqi _ x y | .store _ x y | .idx _ x y | .idxA _ _ x y | .ixS x y | .min2 x y | .max2 x y | .app _ _ x y | .cpy _ _ x y | .mks _ _ _ _ x y => argR x ++ argR y
  | .build _ ps | .bsl _ _ _ ps => ps.flatMap fun p => argR p.2.2
  | .subS x a b | .subL _ x a b | .subA _ _ x a b => argR x ++ (optR a ++ optR b)
  | .mkf _ a b => a.flatMap argR ++ b.flatMap argR
  | .call _ a => a.flatMap argR
  | .gen _ a => a.flatMap argR
  | .callv x a => argR x ++ a.flatMap argR
  | .chk x d => d :: argR x
  | .chkN _ x d => d :: argR x
  | _ => []
def stR (s : St) : List Nat := (match s.grd with | some (g, _) => [g] | none => []) ++ insR s.ins
def dstL (s : St) : List Nat := match s.dst with | some d => [d] | none => []
def aprt (s t : St) : Bool := (dstL s).all (fun d => !(stR t).elem d && !(dstL t).elem d) && (dstL t).all (fun d => !(stR s).elem d)

section
variable {P : Program} {ρ ρ' : Env} {w : World} {k : Value → World → Prop}
theorem arg_congr {a : Arg} (h : ∀ t, t ∈ argR a → ρ t = ρ' t) : a.ev ρ = a.ev ρ' := by
  cases a with
  | t n => exact h n (by simp [argR])
  | v x => rfl
theorem opt_congr {a : Option Arg} (h : ∀ t, t ∈ optR a → ρ t = ρ' t) : a.map (Arg.ev ρ) = a.map (Arg.ev ρ') := by
  cases a with
  | none => rfl
  | some a => simp only [Option.map_some]; rw [arg_congr h]
theorem args_congr {l : List Arg} (h : ∀ t, t ∈ l.flatMap argR → ρ t = ρ' t) : argsV ρ l = argsV ρ' l := by
  unfold argsV
  apply List.map_congr_left
  intro a ha
  exact arg_congr fun t ht => h t (List.mem_flatMap.2 ⟨a, ha, ht⟩)
theorem lays_congr {l : List (Nat × Nat × Arg)} (h : ∀ t, t ∈ l.flatMap (fun p => argR p.2.2) → ρ t = ρ' t) : layA ρ l = layA ρ' l := by
  unfold layA
  apply List.map_congr_left
  intro a ha
  rw [arg_congr fun t ht => h t (List.mem_flatMap.2 ⟨a, ha, ht⟩)]
theorem ins_congr {i : Ins} (h : ∀ t, t ∈ insR i → ρ t = ρ' t) : vcI P i ρ w k = vcI P i ρ' w k := by
  cases i <;> simp only [insR, List.mem_append, List.mem_cons] at h <;> simp only [vcI]
  case pick a b c => rw [arg_congr (a := a) fun t ht => h t (.inl (.inl ht)), arg_congr (a := b) fun t ht => h t (.inl (.inr ht)), arg_congr (a := c) fun t ht => h t (.inr ht)]
  case build => rw [lays_congr h]
  case bsl => rw [lays_congr h]
  case mkf a b => rw [args_congr (l := a) fun t ht => h t (.inl ht), args_congr (l := b) fun t ht => h t (.inr ht)]
  case call => rw [args_congr h]
  case gen => rw [args_congr h]
  case callv x a => rw [arg_congr (a := x) fun t ht => h t (.inl ht), args_congr (l := a) fun t ht => h t (.inr ht)]
  case subS x a b => rw [arg_congr (a := x) fun t ht => h t (.inl ht), opt_congr (a := a) fun t ht => h t (.inr (.inl ht)), opt_congr (a := b) fun t ht => h t (.inr (.inr ht))]
  case subL x a b => rw [arg_congr (a := x) fun t ht => h t (.inl ht), opt_congr (a := a) fun t ht => h t (.inr (.inl ht)), opt_congr (a := b) fun t ht => h t (.inr (.inr ht))]
  case subA x a b => rw [arg_congr (a := x) fun t ht => h t (.inl ht), opt_congr (a := a) fun t ht => h t (.inr (.inl ht)), opt_congr (a := b) fun t ht => h t (.inr (.inr ht))]
  case chk x d => rw [arg_congr (a := x) fun t ht => h t (.inr ht), h d (.inl rfl)]
  case chkN n x d => rw [arg_congr (a := x) fun t ht => h t (.inr ht), h d (.inl rfl)]
  all_goals first
    | rfl
    | (rename_i x; rw [arg_congr (a := x) h]; done)
    | (rename_i x y; rw [arg_congr (a := x) fun t ht => h t (.inl ht), arg_congr (a := y) fun t ht => h t (.inr ht)]; done)

theorem W_val {i : Ins} (hr : cls i = 0) (h : vcI P i ρ w k) : ∃ v, k v w ∧ ∀ w', vcI P i ρ w' fun u w'' => u = v ∧ w'' = w' := by
  cases i <;> simp only [cls] at hr <;> try (cases hr; done)
  case mov => exact ⟨_, h, fun n => ⟨rfl, rfl⟩⟩
  case mkf => exact ⟨_, h, fun n => ⟨rfl, rfl⟩⟩
  all_goals
    obtain ⟨v, hv, hk⟩ := seqO_ex h
    refine ⟨_, hk, fun n => ?_⟩
    show seqO _ _
    rw [hv]
    exact ⟨rfl, rfl⟩
theorem R_val {i : Ins} (hr : cls i = 1) (h : vcI P i ρ w k) : ∃ v, k v w ∧ vcI P i ρ w fun u w'' => u = v ∧ w'' = w := by
  cases i <;> simp only [cls] at hr <;> try (cases hr; done)
  all_goals
    obtain ⟨v, hv, hk⟩ := seqO_ex h
    refine ⟨_, hk, ?_⟩
    show seqO _ _
    rw [hv]
    exact ⟨rfl, rfl⟩
theorem vcI_ex {i : Ins} (h : vcI P i ρ w k) : ∃ v w', k v w' := by
  cases i
  case mov => exact ⟨_, _, h⟩
  case alloc => exact ⟨_, _, h⟩
  case box => exact ⟨_, _, h⟩
  case mkf => exact ⟨_, _, h⟩
  case mkm => exact ⟨_, _, h⟩
  case bad => exact h.elim
  case chk => exact ⟨_, _, h.2⟩
  case chkN => exact ⟨_, _, h.2⟩
  case mks e sz bytes z l c =>
    replace h : mksP e sz bytes z (l.ev ρ) (c.ev ρ) w k := h
    unfold mksP at h
    split at h
    · exact ⟨_, _, h.2.2.2.2.2.2⟩
    · exact h.elim
  case cvBS x =>
    replace h : cvBSP w (x.ev ρ) (fun v => k v w) := h
    unfold cvBSP at h
    split at h
    · exact ⟨_, _, h⟩
    · obtain ⟨l, h1, h2, h3⟩ := h; exact ⟨_, _, h3⟩
    · exact h.elim
  case call f as =>
    obtain ⟨e, w', _, ⟨v, _, hk⟩, _⟩ := h []
    exact ⟨v, w', hk⟩
  case callv x as =>
    replace h : callvP P (x.ev ρ) (argsV ρ as) w k := h
    unfold callvP at h
    split at h
    · obtain ⟨e, w', _, ⟨v, _, hk⟩, _⟩ := h.2 []
      exact ⟨v, w', hk⟩
    · obtain ⟨_, _, f, tmps, assign, body, _, h4⟩ := h
      obtain ⟨e, w', ⟨v, _, hk⟩, _⟩ := h4.2 default [] (room_wide _)
      exact ⟨v, w', hk⟩
    · exact h.elim
  case app t u x y => obtain ⟨v, w', h1, h2⟩ := h; exact ⟨v, w', h2⟩
  case cpy t u x y => obtain ⟨v, w', h1, h2⟩ := h; exact ⟨v, w', h2⟩
  case gen kd xs => obtain ⟨v, w', h1, h2⟩ := h; exact ⟨v, w', h2⟩
  all_goals (obtain ⟨v, hv, hk⟩ := seqO_ex h; exact ⟨_, _, hk⟩)

/-! ### One operation, its guard with it -/
def opS (P : Program) (s : St) (k : Value → World → Prop) (ρ : Env) (w : World) : Prop :=
  match s.grd with
  | none => vcI P s.ins ρ w k
  | some (g, b) => grdP (ρ g) b (vcI P s.ins ρ w k) (k undef w)
theorem vcL_cons (s : St) (r : List St) (Q : Post) : vcL P (s :: r) Q ρ w = opS P s (fun v w' => vcL P r Q (upd ρ s.dst v) w') ρ w := by
  simp only [vcL, opS]
  cases s.grd <;> rfl
theorem opS_mono {s : St} {k k' : Value → World → Prop} (hk : ∀ v w, k v w → k' v w) (h : opS P s k ρ w) : opS P s k' ρ w := by
  unfold opS at *
  split at h
  · exact vcI_mono hk h
  · exact grdP_mono (vcI_mono hk) (hk _ _) h
theorem opS_congr {s : St} (h : ∀ t, t ∈ stR s → ρ t = ρ' t) : opS P s k ρ w = opS P s k ρ' w := by
  unfold opS
  unfold stR at h
  cases hg : s.grd with
  | none => exact ins_congr fun t ht => h t (by simp [hg, ht])
  | some x =>
    obtain ⟨g, b⟩ := x
    simp only
    rw [h g (by simp [hg]), ins_congr (i := s.ins) fun t ht => h t (by simp [hg, ht])]
/-- Either the operation is carried out, in whatever world, or it is passed over, in whatever world. -/
theorem opS_ways (s : St) (ρ : Env) : (∀ w k, opS P s k ρ w = vcI P s.ins ρ w k) ∨ (∀ w k, opS P s k ρ w = k undef w) := by
  unfold opS
  cases hg : s.grd with
  | none => exact .inl fun _ _ => rfl
  | some x =>
    obtain ⟨g, b⟩ := x
    simp only
    unfold grdP
    split
    · split
      · exact .inl fun _ _ => rfl
      · exact .inr fun _ _ => rfl
    · exact .inr fun _ _ => rfl
theorem opW_val {s : St} (hr : cls s.ins = 0) (h : opS P s k ρ w) : ∃ v, k v w ∧ ∀ w', opS P s (fun u w'' => u = v ∧ w'' = w') ρ w' := by
  rcases opS_ways (P := P) s ρ with hw | hw
  · rw [hw] at h
    obtain ⟨v, h1, h2⟩ := W_val hr h
    exact ⟨v, h1, fun w' => by rw [hw]; exact h2 w'⟩
  · rw [hw] at h
    exact ⟨undef, h, fun w' => by rw [hw]; exact ⟨rfl, rfl⟩⟩
theorem opR_val {s : St} (hr : cls s.ins = 1) (h : opS P s k ρ w) : ∃ v, k v w ∧ opS P s (fun u w'' => u = v ∧ w'' = w) ρ w := by
  rcases opS_ways (P := P) s ρ with hw | hw
  · rw [hw] at h
    obtain ⟨v, h1, h2⟩ := R_val hr h
    exact ⟨v, h1, by rw [hw]; exact h2⟩
  · rw [hw] at h
    exact ⟨undef, h, by rw [hw]; exact ⟨rfl, rfl⟩⟩
theorem opS_ex {s : St} (h : opS P s k ρ w) : ∃ v w', k v w' := by
  rcases opS_ways (P := P) s ρ with hw | hw
  · rw [hw] at h; exact vcI_ex h
  · rw [hw] at h; exact ⟨_, _, h⟩
theorem opS_of {s : St} {v : Value} (h : opS P s (fun u w'' => u = v ∧ w'' = w) ρ w) (hk : k v w) : opS P s k ρ w := opS_mono (fun u w'' ⟨h1, h2⟩ => by subst h1; subst h2; exact hk) h
end

/-! ### Any order -/
/-- Is operation i surely carried out ahead of j? (n: how far is looked) -/
def reach (ops : Array Oper) : Nat → Nat → Nat → Bool
  | 0, _, _ => false
  | n + 1, j, i => match ops[j]? with
    | some o => o.after.any fun e => Region.binds .any e && (e.on == i || (Nat.blt i e.on && reach ops n e.on i))
    | none => false
def fuel : Nat := 8
/-- May i be taken ahead of j, though j might come first? -/
def okp (ops : Array Oper) (i j : Nat) (s t : St) : Bool :=
  aprt s t && (cls s.ins == 0 || cls t.ins == 0 || (cls s.ins == 1 && (cls t.ins == 1 || !reach ops fuel j i)))

section
variable {P : Program} {N : Nat} {ops : Array Oper} {sts : List St}
abbrev Hold := Nat → World → Prop
def setH (H : Hold) (i : Nat) (p : World → Prop) : Hold := fun r => if r = i then p else H r
/-- Operation i comes up: a load is held; behind all that is no load and looks at more than slots, what is held and was not surely ahead is the same. -/
def stepE (P : Program) (ops : Array Oper) (sts : List St) (i : Nat) (K : Env → World → Hold → Prop) (ρ : Env) (w : World) (H : Hold) : Prop :=
  match sts[i]? with
  | none => K ρ w H
  | some s =>
    opS P s (fun v w' => (cls s.ins = 2 → ∀ r, reach ops fuel i r = false → H r w') ∧
      K (upd ρ s.dst v) w' (if cls s.ins = 1 then setH H i (fun w'' => opS P s (fun u w3 => u = v ∧ w3 = w'') ρ w'') else H)) ρ w
def vcAny (P : Program) (ops : Array Oper) (sts : List St) (Kf : Env → World → Prop) : Nat → Array Bool → Env → World → Hold → Prop
  | 0, listed, ρ, w, _ => Region.ready .any ops listed = [] ∧ Kf ρ w
  | n + 1, listed, ρ, w, H => (Region.ready .any ops listed = [] → Kf ρ w) ∧ ∀ i ∈ Region.ready .any ops listed, stepE P ops sts i (vcAny P ops sts Kf n (listed.setIfInBounds i true)) ρ w H

theorem stepE_mono {i : Nat} {K K' : Env → World → Hold → Prop} {ρ : Env} {w : World} {H : Hold} (hk : ∀ ρ w H, K ρ w H → K' ρ w H) (h : stepE P ops sts i K ρ w H) : stepE P ops sts i K' ρ w H := by
  unfold stepE at *
  split at h
  · exact hk _ _ _ h
  · exact opS_mono (fun v w' ⟨h1, h2⟩ => ⟨h1, hk _ _ _ h2⟩) h
theorem stepE_ex {i : Nat} {K : Env → World → Hold → Prop} {ρ : Env} {w : World} {H : Hold} (h : stepE P ops sts i K ρ w H) : ∃ ρ w H, K ρ w H := by
  unfold stepE at h
  split at h
  · exact ⟨_, _, _, h⟩
  · obtain ⟨v, w', _, h2⟩ := opS_ex h
    exact ⟨_, _, _, h2⟩

theorem upd_comm {ρ : Env} {s t : St} (h : ∀ d, d ∈ dstL s → d ∉ dstL t) (u v : Value) : upd (upd ρ s.dst u) t.dst v = upd (upd ρ t.dst v) s.dst u := by
  unfold dstL at h
  cases hs : s.dst with
  | none => rfl
  | some d =>
    cases ht : t.dst with
    | none => rfl
    | some e =>
      rw [hs, ht] at h
      have hne : d ≠ e := fun he => h d (by simp) (by simp [he])
      funext i
      simp only [upd, up]
      by_cases h1 : i = e
      · have h2 : i ≠ d := fun he => hne (he.symm.trans h1)
        simp [h1, Ne.symm hne]
      · simp [h1]
theorem upd_off {ρ : Env} {s t : St} (h : ∀ d, d ∈ dstL s → d ∉ stR t) (v : Value) : ∀ x, x ∈ stR t → upd ρ s.dst v x = ρ x := by
  intro x hx
  unfold dstL at h
  cases hs : s.dst with
  | none => rfl
  | some d =>
    rw [hs] at h
    have : x ≠ d := fun he => h d (by simp) (he ▸ hx)
    simp [upd, up, this]
theorem aprt_spec {s t : St} (h : aprt s t = true) : (∀ d, d ∈ dstL s → d ∉ stR t) ∧ (∀ d, d ∈ dstL s → d ∉ dstL t) ∧ (∀ d, d ∈ dstL t → d ∉ stR s) := by
  simp only [aprt, Bool.and_eq_true, List.all_eq_true] at h
  obtain ⟨h1, h2⟩ := h
  refine ⟨fun d hd hm => ?_, fun d hd hm => ?_, fun d hd hm => ?_⟩
  · have := (h1 d hd).1; simp [hm] at this
  · have := (h1 d hd).2; simp [hm] at this
  · have := h2 d hd; simp [hm] at this
theorem setH_comm {H : Hold} {i j : Nat} (h : i ≠ j) (p q : World → Prop) : setH (setH H i p) j q = setH (setH H j q) i p := by
  funext r
  unfold setH
  by_cases h1 : r = j
  · have : r ≠ i := fun he => h (he.symm.trans h1)
    simp [h1, Ne.symm h]
  · simp [h1]

theorem ins_det {i : Ins} (hc : cls i ≠ 2) {ρ : Env} {w : World} {a b : Value} (ha : vcI P i ρ w fun u w'' => u = a ∧ w'' = w) (hb : vcI P i ρ w fun u w'' => u = b ∧ w'' = w) : a = b := by
  cases i <;> simp only [cls, ne_eq, not_true] at hc
  case mov => exact ha.1.symm.trans hb.1
  case mkf => exact ha.1.symm.trans hb.1
  all_goals
    obtain ⟨p, hp, hpa, _⟩ := seqO_ex ha
    obtain ⟨q, hq, hqb, _⟩ := seqO_ex hb
    rw [hp] at hq
    injection hq with hq
    subst hq
    exact hpa.symm.trans hqb
theorem op_det {s : St} (hc : cls s.ins ≠ 2) {ρ : Env} {w : World} {a b : Value} (ha : opS P s (fun u w'' => u = a ∧ w'' = w) ρ w) (hb : opS P s (fun u w'' => u = b ∧ w'' = w) ρ w) : a = b := by
  rcases opS_ways (P := P) s ρ with hw | hw
  · rw [hw] at ha hb; exact ins_det hc ha hb
  · rw [hw] at ha hb; exact ha.1.symm.trans hb.1

theorem comm {i j : Nat} (hij : i ≠ j) {s t : St} (hs : sts[i]? = some s) (ht : sts[j]? = some t) (hok : okp ops i j s t = true) {K : Env → World → Hold → Prop} {ρ : Env} {w : World} {H : Hold} (hHi : ∀ w, H i w)
    (h : stepE P ops sts i (stepE P ops sts j K) ρ w H) : stepE P ops sts j (stepE P ops sts i K) ρ w H := by
  simp only [okp, Bool.and_eq_true, Bool.or_eq_true, beq_iff_eq, Bool.not_eq_true'] at hok
  obtain ⟨hap, hcl⟩ := hok
  obtain ⟨a1, a2, a3⟩ := aprt_spec hap
  have eT : ∀ (ρ : Env) (v : Value) (k : Value → World → Prop) (w : World), opS P t k (upd ρ s.dst v) w = opS P t k ρ w := fun ρ v k w => opS_congr (upd_off a1 v)
  have eS : ∀ (ρ : Env) (v : Value) (k : Value → World → Prop) (w : World), opS P s k (upd ρ t.dst v) w = opS P s k ρ w := fun ρ v k w => opS_congr (upd_off a3 v)
  have eU : ∀ (ρ : Env) (u v : Value), upd (upd ρ s.dst u) t.dst v = upd (upd ρ t.dst v) s.dst u := fun ρ u v => upd_comm a2 u v
  simp only [stepE, hs, ht] at h ⊢
  simp only [eT, eU] at h
  simp only [eS]
  by_cases c1 : cls s.ins = 0
  · have n1 : ¬ cls s.ins = 1 := by omega
    have n2 : ¬ cls s.ins = 2 := by omega
    simp only [n1, n2, if_false, false_implies, true_and] at h ⊢
    obtain ⟨v, hk, hv⟩ := opW_val c1 h
    exact opS_mono (fun u w' hh => ⟨hh.1, opS_of (hv w') hh.2⟩) hk
  by_cases c2 : cls t.ins = 0
  · have n1 : ¬ cls t.ins = 1 := by omega
    have n2 : ¬ cls t.ins = 2 := by omega
    simp only [n1, n2, if_false, false_implies, true_and] at h ⊢
    obtain ⟨v0, w0, _, h0⟩ := opS_ex h
    obtain ⟨v, _, hv⟩ := opW_val c2 h0
    refine opS_of (hv w) ?_
    refine opS_mono (fun u w' hh => ⟨hh.1, ?_⟩) h
    obtain ⟨v', hk, hv'⟩ := opW_val c2 hh.2
    have : v' = v := op_det (by omega) (hv' w) (hv w)
    subst this
    exact hk
  have c3 : cls s.ins = 1 := by rcases hcl with (h | h) | h <;> omega
  have n2 : ¬ cls s.ins = 2 := by omega
  simp only [c3, if_true, n2, false_implies, true_and, show ¬ (1 : Nat) = 2 from by omega] at h ⊢
  obtain ⟨v, hk, hv⟩ := opR_val c3 h
  by_cases c4 : cls t.ins = 1
  · have m2 : ¬ cls t.ins = 2 := by omega
    simp only [c4, if_true, m2, false_implies, true_and, show ¬ (1 : Nat) = 2 from by omega] at hk ⊢
    obtain ⟨u, hk2, hu⟩ := opR_val c4 hk
    refine opS_of hu (opS_of hv ?_)
    rw [setH_comm hij] at hk2
    exact hk2
  · have c5 : reach ops fuel j i = false := by rcases hcl with (h | h) | ⟨_, h | h⟩ <;> first | omega | exact h
    simp only [c4, if_false] at hk ⊢
    refine opS_mono (fun u w' hh => ⟨fun h2 r hr => ?_, ?_⟩) hk
    · by_cases hri : r = i
      · subst hri; exact hHi w'
      · have := hh.1 h2 r hr
        simpa [setH, hri] using this
    · by_cases h2 : cls t.ins = 2
      · have hp := hh.1 h2 i c5
        simp only [setH, if_true] at hp
        exact opS_of hp hh.2
      · have : cls t.ins = 0 ∨ cls t.ins = 1 ∨ cls t.ins = 2 := by cases t.ins <;> simp [cls]
        omega

def closed (ops : Array Oper) (listed : Array Bool) : Prop := ∀ m o, ops[m]? = some o → listed.getD m false = true → ∀ e ∈ o.after, Region.binds .any e = true → listed.getD e.on false = true
theorem reach_listed {listed : Array Bool} (hc : closed ops listed) : ∀ (n m i : Nat) (o : Oper), ops[m]? = some o → (∀ e ∈ o.after, Region.binds .any e = true → listed.getD e.on false = true) → reach ops n m i = true → listed.getD i false = true
  | 0, _, _, _, _, _, h => by cases h
  | n + 1, m, i, o, ho, he, h => by
    simp only [reach, ho, Array.any_eq_true] at h
    obtain ⟨x, hx, h⟩ := h
    simp only [Bool.and_eq_true, Bool.or_eq_true, beq_iff_eq] at h
    obtain ⟨hb, h⟩ := h
    have hl := he _ (Array.getElem_mem hx) hb
    rcases h with h | ⟨_, h⟩
    · rw [← h]; exact hl
    · cases ho' : ops[o.after[x].on]? with
      | none => 
        cases n with
        | zero => cases h
        | succ n => simp [reach, ho'] at h
      | some o' => exact reach_listed hc n _ i o' ho' (fun e hee hbb => hc _ o' ho' hl e hee hbb) h
theorem closed_set {listed : Array Bool} {j : Nat} (hc : closed ops listed) (hj : j ∈ Region.ready .any ops listed) : closed ops (listed.setIfInBounds j true) := by
  intro m o ho hm e he hb
  obtain ⟨h0, oj, hoj, hall⟩ := mem_ready.1 hj
  have mono : ∀ x, listed.getD x false = true → (listed.setIfInBounds j true).getD x false = true := fun x hx => getD_set_true hx
  by_cases hmj : m = j
  · subst hmj
    rw [hoj] at ho
    injection ho with ho
    subst ho
    exact mono _ (hall e he hb)
  · refine mono _ (hc m o ho ?_ e he hb)
    rwa [getD_set_ne false (Ne.symm hmj)] at hm
theorem getD_false {listed : Array Bool} {j : Nat} (h : listed.getD j true = false) : listed.getD j false = false := by
  rcases Nat.lt_or_ge j listed.size with h' | h'
  · simp [h'] at h ⊢; exact h
  · simp [Array.getElem?_eq_none h'] at h ⊢
theorem stepE_monoH {i : Nat} {K K' : Env → World → Hold → Prop} {ρ : Env} {w : World} {H : Hold} (hk : ∀ ρ w H', (∀ r, r ≠ i → H' r = H r) → K ρ w H' → K' ρ w H') (h : stepE P ops sts i K ρ w H) : stepE P ops sts i K' ρ w H := by
  unfold stepE at *
  split at h
  · exact hk _ _ _ (fun _ _ => rfl) h
  · refine opS_mono (fun v w' ⟨h1, h2⟩ => ⟨h1, hk _ _ _ (fun r hr => ?_) h2⟩) h
    split
    · simp [setH, hr]
    · rfl

theorem any_first {Kf : Env → World → Prop} {i : Nat} {s : St} (hs : sts[i]? = some s) (hlen : ∀ (j : Nat) (o : Oper), ops[j]? = some o → ∃ t, sts[j]? = some t) : ∀ (n : Nat) (listed : Array Bool) (ρ : Env) (w : World) (H : Hold),
    closed ops listed → (∀ r, listed.getD r true = false → ∀ w, H r w) → (∀ j t, sts[j]? = some t → j ≠ i → listed.getD j true = false → okp ops i j s t = true ∨ reach ops fuel j i = true) →
    i ∈ Region.ready .any ops listed → stepE P ops sts i (vcAny P ops sts Kf n (listed.setIfInBounds i true)) ρ w H → vcAny P ops sts Kf (n + 1) listed ρ w H := by
  intro n
  induction n with
  | zero =>
    intro listed ρ w H hc hH hfree hr h
    refine ⟨fun he => (by rw [he] at hr; cases hr), fun j hj => ?_⟩
    by_cases hji : j = i
    · subst hji; exact h
    · obtain ⟨_, _, _, h0⟩ := stepE_ex h
      have := ready_mono hj hji
      rw [h0.1] at this
      cases this
  | succ n ih =>
    intro listed ρ w H hc hH hfree hr h
    refine ⟨fun he => (by rw [he] at hr; cases hr), fun j hj => ?_⟩
    by_cases hji : j = i
    · subst hji; exact h
    · obtain ⟨hju, oj, hoj, hall⟩ := mem_ready.1 hj
      obtain ⟨hiu, _⟩ := mem_ready.1 hr
      obtain ⟨t, ht⟩ := hlen j oj hoj
      have hok : okp ops i j s t = true := by
        rcases hfree j t ht hji hju with h1 | h1
        · exact h1
        · have := reach_listed hc fuel j i oj hoj hall h1
          rw [getD_false hiu] at this
          cases this
      have h1 : stepE P ops sts i (stepE P ops sts j (vcAny P ops sts Kf n ((listed.setIfInBounds i true).setIfInBounds j true))) ρ w H :=
        stepE_mono (fun ρ w H hh => hh.2 j (ready_mono hj hji)) h
      have h2 := comm (Ne.symm hji) hs ht hok (hH i hiu) h1
      refine stepE_monoH (fun ρ' w' H' hH' hh => ?_) h2
      refine ih (listed.setIfInBounds j true) ρ' w' H' (closed_set hc hj) ?_ ?_ (ready_mono hr (Ne.symm hji)) ?_
      · intro r hr'
        have hrj : r ≠ j := by
          intro he
          subst he
          have hlt : r < listed.size := by
            rcases Nat.lt_or_ge r listed.size with h' | h'
            · exact h'
            · simp [Array.getElem?_eq_none h'] at hju
          simp [hlt] at hr'
        rw [hH' r hrj]
        rw [getD_set_ne true (Ne.symm hrj)] at hr'
        exact hH r hr'
      · intro k u hu hki hun
        refine hfree k u hu hki ?_
        by_cases hjk : j = k
        · subst hjk; exact hju
        · rwa [getD_set_ne true hjk] at hun
      · rw [Array.setIfInBounds_comm _ _ hji]
        exact hh

/-! ### Orders of our choice -/
inductive Pl where
  | done | go (i : Nat) (p : Pl) | both (i : Nat) (p q : Pl)
def Pl.siz : Pl → Nat | .done => 0 | .go _ p => p.siz + 1 | .both _ p _ => p.siz + 1
def vcPl (P : Program) (ops : Array Oper) (sts : List St) (Kf : Env → World → Prop) : Pl → Env → World → Hold → Prop
  | .done, ρ, w, _ => Kf ρ w
  | .go i p, ρ, w, H => stepE P ops sts i (vcPl P ops sts Kf p) ρ w H
  | .both i p q, ρ, w, H => stepE P ops sts i (vcPl P ops sts Kf p) ρ w H ∧ vcPl P ops sts Kf q ρ w H
def freeB (ops : Array Oper) (sts : List St) (listed : Array Bool) (i : Nat) : Bool :=
  (List.range ops.size).all fun j => j == i || listed.getD j true || (match sts[i]?, sts[j]? with | some s, some t => okp ops i j s t || reach ops fuel j i | _, _ => false)
def canB (ops : Array Oper) (sts : List St) : Array Bool → List Nat → Pl → Bool
  | listed, skip, .done => skip.isEmpty && (Region.ready .any ops listed).isEmpty
  | listed, skip, .go i p => (Region.ready .any ops listed).contains i && (if skip.isEmpty then freeB ops sts listed i else (Region.ready .any ops listed).all fun j => skip.contains j || j == i) && canB ops sts (listed.setIfInBounds i true) [] p
  | listed, skip, .both i p q => (Region.ready .any ops listed).contains i && canB ops sts (listed.setIfInBounds i true) [] p && canB ops sts listed (i :: skip) q && q.siz == p.siz + 1

theorem in_bounds {listed : Array Bool} {i : Nat} (h : listed.getD i true = false) : i < listed.size := by
  rcases Nat.lt_or_ge i listed.size with h' | h'
  · exact h'
  · simp [Array.getElem?_eq_none h'] at h
theorem free_set {listed : Array Bool} {i : Nat} {H H' : Hold} (hiu : listed.getD i true = false) (hH : ∀ r, listed.getD r true = false → ∀ w, H r w) (hH' : ∀ r, r ≠ i → H' r = H r) : ∀ r, (listed.setIfInBounds i true).getD r true = false → ∀ w, H' r w := by
  intro x hx
  have hxi : x ≠ i := by
    intro he
    subst he
    have hlt := in_bounds hiu
    simp [hlt] at hx
  rw [hH' x hxi]
  rw [getD_set_ne true (Ne.symm hxi)] at hx
  exact hH x hx

theorem any_plan {Kf : Env → World → Prop} (hlen : ∀ (j : Nat) (o : Oper), ops[j]? = some o → ∃ t, sts[j]? = some t) (hlen' : ∀ (j : Nat) (t : St), sts[j]? = some t → j < ops.size) : ∀ (p : Pl) (listed : Array Bool) (skip : List Nat) (ρ : Env) (w : World) (H : Hold),
    closed ops listed → (∀ r, listed.getD r true = false → ∀ w, H r w) → canB ops sts listed skip p = true → vcPl P ops sts Kf p ρ w H →
    (skip = [] → vcAny P ops sts Kf p.siz listed ρ w H) ∧ (skip ≠ [] → 1 ≤ p.siz ∧ ∀ j ∈ Region.ready .any ops listed, j ∉ skip → stepE P ops sts j (vcAny P ops sts Kf (p.siz - 1) (listed.setIfInBounds j true)) ρ w H)
  | .done, listed, skip, ρ, w, H, _, _, hb, h => by
    simp only [canB, Bool.and_eq_true, List.isEmpty_iff] at hb
    exact ⟨fun _ => ⟨hb.2, h⟩, fun hn => (hn hb.1).elim⟩
  | .go i p, listed, skip, ρ, w, H, hc, hH, hb, h => by
    simp only [canB, Bool.and_eq_true] at hb
    obtain ⟨⟨h1, h2⟩, h3⟩ := hb
    have hr : i ∈ Region.ready .any ops listed := by simpa using h1
    obtain ⟨hiu, oi, hoi, _⟩ := mem_ready.1 hr
    obtain ⟨s, hs⟩ := hlen i oi hoi
    have step : stepE P ops sts i (vcAny P ops sts Kf p.siz (listed.setIfInBounds i true)) ρ w H :=
      stepE_monoH (fun ρ' w' H' hH' hh => (any_plan hlen hlen' p _ [] ρ' w' H' (closed_set hc hr) (free_set hiu hH hH') h3 hh).1 rfl) h
    refine ⟨fun he => ?_, fun hn => ⟨by simp [Pl.siz], fun j hj hjs => ?_⟩⟩
    · subst he
      simp only [List.isEmpty_nil, if_true] at h2
      refine any_first hs hlen p.siz listed ρ w H hc hH ?_ hr step
      intro j t ht hji hun
      have := List.all_eq_true.1 h2 j (List.mem_range.2 (hlen' j t ht))
      simp only [hs, ht, hun, Bool.or_eq_true, beq_iff_eq, hji, false_or, Bool.false_eq_true] at this
      exact this
    · have hne : skip.isEmpty = false := by cases skip with | nil => exact (hn rfl).elim | cons => rfl
      rw [hne] at h2
      simp only [Bool.false_eq_true, if_false, List.all_eq_true] at h2
      have := h2 j hj
      simp only [Bool.or_eq_true, beq_iff_eq, List.contains_iff_mem, hjs, false_or] at this
      subst this
      exact step
  | .both i p q, listed, skip, ρ, w, H, hc, hH, hb, h => by
    simp only [canB, Bool.and_eq_true, beq_iff_eq] at hb
    obtain ⟨⟨⟨h1, h2⟩, h3⟩, h4⟩ := hb
    have hr : i ∈ Region.ready .any ops listed := by simpa using h1
    obtain ⟨hiu, oi, hoi, _⟩ := mem_ready.1 hr
    have step : stepE P ops sts i (vcAny P ops sts Kf p.siz (listed.setIfInBounds i true)) ρ w H :=
      stepE_monoH (fun ρ' w' H' hH' hh => (any_plan hlen hlen' p _ [] ρ' w' H' (closed_set hc hr) (free_set hiu hH hH') h2 hh).1 rfl) h.1
    have rest := (any_plan hlen hlen' q listed (i :: skip) ρ w H hc hH h3 h.2).2 (by simp)
    have hq : q.siz - 1 = p.siz := by omega
    rw [hq] at rest
    have all : ∀ j ∈ Region.ready .any ops listed, j ∉ skip → stepE P ops sts j (vcAny P ops sts Kf p.siz (listed.setIfInBounds j true)) ρ w H := by
      intro j hj hjs
      by_cases hji : j = i
      · subst hji; exact step
      · exact rest.2 j hj (by simp [hji, hjs])
    refine ⟨fun he => ?_, fun hn => ⟨by simp [Pl.siz], all⟩⟩
    subst he
    exact ⟨fun he => (by rw [he] at hr; cases hr), fun j hj => all j hj (by simp)⟩

/-! ### What is walked: a load is looked at again behind what might come ahead of it -/
inductive D where
  | ops (l : List St) | alt (l : List St) (a b : D)
def vcD (P : Program) : D → Post → Env → World → Prop
  | .ops l, Q, ρ, w => vcL P l Q ρ w
  | .alt l a b, Q, ρ, w => vcL P l (fun _ ρ w => vcD P a Q ρ w ∧ vcD P b Q ρ w) ρ w
def D.pre (l : List St) : D → D
  | .ops r => .ops (l ++ r)
  | .alt r a b => .alt (l ++ r) a b
theorem vcL_append (l r : List St) (Q : Post) : ∀ (ρ : Env) (w : World), vcL P (l ++ r) Q ρ w = vcL P l (fun _ ρ w => vcL P r Q ρ w) ρ w := by
  induction l with
  | nil => intro ρ w; rfl
  | cons s l ih =>
    intro ρ w
    rw [List.cons_append, vcL_cons, vcL_cons]
    simp only [ih]
theorem vcD_pre (l : List St) (Q : Post) (ρ : Env) (w : World) : ∀ d, vcD P (D.pre l d) Q ρ w = vcL P l (fun _ ρ w => vcD P d Q ρ w) ρ w
  | .ops r => vcL_append l r Q ρ w
  | .alt r a b => vcL_append l r _ ρ w
def chkOf (t : St) : Option St :=
  match t.dst, t.ins with
  | some d, .load x => some ⟨none, t.grd, .chk x d⟩
  | some d, .loadN n x => some ⟨none, t.grd, .chkN n x d⟩
  | _, _ => none
def chks (ops : Array Oper) (sts : List St) (i : Nat) : List Nat → List St
  | [] => []
  | r :: rest => match (sts[r]?).bind chkOf with
    | some c => if reach ops fuel i r then chks ops sts i rest else c :: chks ops sts i rest
    | none => chks ops sts i rest
/-- Is what the loads yielded left as it was by operation s? -/
def okD (sts : List St) (prev : List Nat) (s : St) : Bool :=
  prev.all (fun r => match (sts[r]?).bind chkOf with | some c => (dstL s).all fun d => !(stR c).elem d | none => true) &&
  (if cls s.ins = 1 then (chkOf s).isSome && (dstL s).all fun d => !(stR s).elem d else true)
def stepD (ops : Array Oper) (sts : List St) (prev : List Nat) (i : Nat) (r : Option D) : Option D :=
  (sts[i]?).bind fun s => if okD sts prev s then r.map (D.pre (s :: (if cls s.ins = 2 then chks ops sts i prev else []))) else none
def build (ops : Array Oper) (sts : List St) : List Nat → Pl → Option D
  | _, .done => some (.ops [])
  | prev, .go i p => stepD ops sts prev i (build ops sts (i :: prev) p)
  | prev, .both i p q => (stepD ops sts prev i (build ops sts (i :: prev) p)).bind fun a => (build ops sts prev q).map fun b => .alt [] a b

abbrev tru : Value → World → Prop := fun _ _ => True
def Inv (P : Program) (sts : List St) (prev : List Nat) (H : Hold) (ρ : Env) : Prop :=
  ∀ r, (∀ w, H r w) ∨ (r ∈ prev ∧ ∃ c, (sts[r]?).bind chkOf = some c ∧ ∀ w, opS P c tru ρ w → H r w)
theorem chks_run {i : Nat} {l : List St} {Q : Post} {ρ : Env} {w : World} : ∀ {prev : List Nat}, vcL P (chks ops sts i prev ++ l) Q ρ w → (∀ r c, r ∈ prev → (sts[r]?).bind chkOf = some c → reach ops fuel i r = false → opS P c tru ρ w) ∧ vcL P l Q ρ w
  | [], h => ⟨fun _ _ hr => (by cases hr), h⟩
  | x :: rest, h => by
    unfold chks at h
    split at h
    · rename_i c hc
      split at h
      · rename_i hre
        obtain ⟨h1, h2⟩ := chks_run h
        refine ⟨fun r c' hr hc' hf => ?_, h2⟩
        rcases List.mem_cons.1 hr with rfl | hr
        · rw [hre] at hf; cases hf
        · exact h1 r c' hr hc' hf
      · rename_i hre
        rw [List.cons_append, vcL_cons] at h
        have hd : c.dst = none ∧ ∀ k, opS P c k ρ w → opS P c tru ρ w ∧ k undef w := by
          obtain ⟨s, hs, hcs⟩ := Option.bind_eq_some_iff.1 hc
          have hins : (∃ y d, c = ⟨none, s.grd, .chk y d⟩) ∨ (∃ n y d, c = ⟨none, s.grd, .chkN n y d⟩) := by
            unfold chkOf at hcs
            split at hcs
            · injection hcs with hcs; exact .inl ⟨_, _, hcs.symm⟩
            · injection hcs with hcs; exact .inr ⟨_, _, _, hcs.symm⟩
            · cases hcs
          have hi : ∀ k, vcI P c.ins ρ w k → vcI P c.ins ρ w tru ∧ k undef w := by
            intro k hh
            rcases hins with ⟨y, d, rfl⟩ | ⟨n, y, d, rfl⟩ <;> exact ⟨⟨hh.1, trivial⟩, hh.2⟩
          refine ⟨?_, fun k hh => ?_⟩
          · rcases hins with ⟨y, d, rfl⟩ | ⟨n, y, d, rfl⟩ <;> rfl
          · unfold opS at hh ⊢
            split at hh
            · rename_i hg; exact hi k hh
            · rename_i hg
              unfold grdP at hh ⊢
              split at hh
              · rename_i hv
                split at hh
                · rename_i hb; rw [if_pos hb]; exact ⟨(hi k hh).1, (hi k hh).2⟩
                · rename_i hb; rw [if_neg hb]; exact ⟨trivial, hh⟩
              · exact ⟨trivial, hh⟩
        obtain ⟨h1, h2⟩ := hd.2 _ h
        rw [hd.1] at h2
        obtain ⟨h3, h4⟩ := chks_run h2
        refine ⟨fun r c' hr hc' hf => ?_, h4⟩
        rcases List.mem_cons.1 hr with rfl | hr
        · rw [hc] at hc'; injection hc' with hc'; subst hc'; exact h1
        · exact h3 r c' hr hc' hf
    · rename_i hn
      obtain ⟨h1, h2⟩ := chks_run h
      refine ⟨fun r c' hr hc' hf => ?_, h2⟩
      rcases List.mem_cons.1 hr with rfl | hr
      · rw [hn] at hc'; cases hc'
      · exact h1 r c' hr hc' hf
theorem dst_off {s c : St} (h : (dstL s).all (fun d => !(stR c).elem d) = true) : ∀ d, d ∈ dstL s → d ∉ stR c := by
  intro d hd hm
  have := List.all_eq_true.1 h d hd
  simp [hm] at this
theorem inv_upd {prev : List Nat} {H : Hold} {ρ : Env} {s : St} {i : Nat} (hI : Inv P sts prev H ρ) (hok : okD sts prev s = true) (v : Value) : Inv P sts (i :: prev) H (upd ρ s.dst v) := by
  simp only [okD, Bool.and_eq_true] at hok
  intro r
  rcases hI r with h | ⟨hr, c, hc, h⟩
  · exact .inl h
  · refine .inr ⟨List.mem_cons_of_mem _ hr, c, hc, fun w hw => h w ?_⟩
    have := List.all_eq_true.1 hok.1 r hr
    rw [hc] at this
    rwa [opS_congr (ρ := upd ρ s.dst v) (ρ' := ρ) (upd_off (dst_off this) v)] at hw
theorem chk_hold {s c : St} {ρ : Env} {w0 w : World} {v : Value} (hc : chkOf s = some c) (hoff : (dstL s).all (fun d => !(stR s).elem d) = true) (hv : opS P s (fun u w'' => u = v ∧ w'' = w0) ρ w0)
    (hw : opS P c tru (upd ρ s.dst v) w) : opS P s (fun u w3 => u = v ∧ w3 = w) ρ w := by
  have hcong := fun k => opS_congr (P := P) (s := s) (k := k) (w := w) (upd_off (ρ := ρ) (dst_off hoff) v)
  rw [← hcong]
  have key : ∀ (d : Nat) (hd : s.dst = some d) (hg : c.grd = s.grd) (hi : vcI P c.ins (upd ρ (some d) v) w tru → vcI P s.ins (upd ρ (some d) v) w fun u w3 => u = upd ρ (some d) v d ∧ w3 = w),
      opS P s (fun u w3 => u = v ∧ w3 = w) (upd ρ s.dst v) w := by
    intro d hd hg hi
    have hvd : upd ρ (some d) v d = v := by simp [upd, up]
    rw [hvd] at hi
    rw [hd] at hw ⊢
    unfold opS at hw hv ⊢
    rw [hg] at hw
    cases hgr : s.grd with
    | none =>
      simp only [hgr] at hw ⊢
      exact hi hw
    | some gb =>
      obtain ⟨g, b⟩ := gb
      have hgv : upd ρ (some d) v g = ρ g := by
        have hne : g ≠ d := fun he => dst_off hoff d (by simp [dstL, hd]) (by simp [stR, hgr, he])
        simp [upd, up, hne]
      simp only [hgr, hgv] at hw hv ⊢
      unfold grdP at hw hv ⊢
      split
      · rename_i b' hb'
        simp only [hb'] at hw hv
        split
        · rename_i hbb; rw [if_pos hbb] at hw; exact hi hw
        · rename_i hbb; rw [if_neg hbb] at hv; exact ⟨hv.1, trivial⟩
      · rename_i hnb
        have : ∀ X : Prop, (match ρ g with | Value.bool b_1 => if b_1 = b then X else undef = v ∧ True | x => undef = v ∧ True) → undef = v := by
          intro X hx
          split at hx
          · rename_i b' hb'; exact (hnb b' hb').elim
          · exact hx.1
        exact ⟨this _ hv, trivial⟩
  obtain ⟨d, g, i⟩ := s
  unfold chkOf at hc
  split at hc
  · rename_i d' x hd hi
    injection hc with hc
    subst hc
    refine key d' hd rfl ?_
    simp only at hi
    subst hi
    intro hh
    show seqO _ _
    rw [hh.1]
    exact ⟨rfl, rfl⟩
  · rename_i d' n x hd hi
    injection hc with hc
    subst hc
    refine key d' hd rfl ?_
    simp only at hi
    subst hi
    intro hh
    show seqO _ _
    rw [hh.1]
    exact ⟨rfl, rfl⟩
  · cases hc

theorem buildD_ok {Q : Post} : ∀ (p : Pl) (prev : List Nat) (d : D) (ρ : Env) (w : World) (H : Hold), build ops sts prev p = some d → Inv P sts prev H ρ → vcD P d Q ρ w → vcPl P ops sts (fun ρ w => Q .normal ρ w) p ρ w H := by
  have one : ∀ (i : Nat) (p : Pl) (prev : List Nat) (d : D) (ρ : Env) (w : World) (H : Hold), (∀ (prev : List Nat) (d : D) (ρ : Env) (w : World) (H : Hold), build ops sts prev p = some d → Inv P sts prev H ρ → vcD P d Q ρ w → vcPl P ops sts (fun ρ w => Q .normal ρ w) p ρ w H) →
      stepD ops sts prev i (build ops sts (i :: prev) p) = some d → Inv P sts prev H ρ → vcD P d Q ρ w → stepE P ops sts i (vcPl P ops sts (fun ρ w => Q .normal ρ w) p) ρ w H := by
    intro i p prev d ρ w H ih hb hI h
    obtain ⟨s, hs, hb⟩ := Option.bind_eq_some_iff.1 hb
    split at hb
    · rename_i hok
      obtain ⟨d', hd', rfl⟩ := Option.map_eq_some_iff.1 hb
      rw [vcD_pre, vcL_cons] at h
      simp only [stepE, hs]
      by_cases c1 : cls s.ins = 1
      · have n2 : ¬ cls s.ins = 2 := by omega
        simp only [n2, if_false, vcL] at h
        simp only [c1, if_true]
        obtain ⟨v, hk, hv⟩ := opR_val c1 h
        refine opS_of hv ⟨fun h2 => (by omega), ih _ _ _ _ _ hd' ?_ hk⟩
        intro r
        by_cases hri : r = i
        · subst hri
          have hok2 := hok
          simp only [okD, Bool.and_eq_true, c1, if_true] at hok2
          obtain ⟨_, hcs, hoff⟩ := hok2
          obtain ⟨c, hc⟩ := Option.isSome_iff_exists.1 hcs
          refine .inr ⟨by simp, c, by rw [hs]; exact hc, fun w' hw' => ?_⟩
          simp only [setH, if_true]
          exact chk_hold hc hoff hv hw'
        · have := inv_upd (i := i) hI hok v r
          simpa [setH, hri] using this
      · simp only [c1, if_false]
        refine opS_mono (fun v w' hh => ?_) h
        have hI' := inv_upd (i := i) hI hok v
        by_cases c2 : cls s.ins = 2
        · simp only [c2, if_true] at hh
          have hh' : vcL P (chks ops sts i prev ++ []) (fun _ ρ w => vcD P d' Q ρ w) (upd ρ s.dst v) w' := by rw [List.append_nil]; exact hh
          obtain ⟨h1, h2⟩ := chks_run hh'
          refine ⟨fun _ r hr => ?_, ih _ _ _ _ _ hd' hI' h2⟩
          rcases hI r with h | ⟨hp, c, hc, hw⟩
          · exact h w'
          · rcases hI' r with h | ⟨_, c', hc', hw'⟩
            · exact h w'
            · exact hw' w' (by rw [hc] at hc'; injection hc' with hc'; subst hc'; exact h1 r c hp hc hr)
        · simp only [c2, if_false, vcL] at hh
          exact ⟨fun h => (c2 h).elim, ih _ _ _ _ _ hd' hI' hh⟩
    · cases hb
  intro p
  induction p with
  | done => intro prev d ρ w H hb _ h; injection hb with hb; subst hb; exact h
  | go i p ih => intro prev d ρ w H hb hI h; exact one i p prev d ρ w H ih hb hI h
  | both i p q ihp ihq =>
    intro prev d ρ w H hb hI h
    obtain ⟨a, ha, hb⟩ := Option.bind_eq_some_iff.1 hb
    obtain ⟨b, hb2, rfl⟩ := Option.map_eq_some_iff.1 hb
    exact ⟨one i p prev a ρ w H ihp ha hI h.1, ihq prev b ρ w H hb2 hI h.2⟩

/-! ### It is what the machine asks -/
theorem op_ok {ro : Option Nat} {o : Oper} {i : Nat} {Q : Post} {K : Act → World → Prop} {ρ : Env} {w : World} (hi : ops[i]? = some o) (hd : o.dst ≠ some N) (h : opS P (trO P N ops o) (fun v w' => K (act N (upd ρ o.dst v)) w') ρ w) : wpOpIn (fz ro) 0 P ops (lift N Q) i K (act N ρ) w := by
  unfold wpOpIn
  rw [hi]
  simp only
  have run : vcI P (trI P N o) ρ w (fun v w' => K (act N (upd ρ o.dst v)) w') → Oper.wpIn (fz ro) 0 P o (act N ρ) w K (lift N Q) := by
    intro hh
    refine Goes.wp (trI_nd hh) (trI_ok (vcI_mono (fun v w' hv => ?_) hh))
    rw [act_put _ _ _ _ hd]
    exact hv
  cases hg : o.guard with
  | none =>
    simp only [opS, trO, hg] at h
    rw [if_pos (by simp [Region.wanted, hg])]
    exact run h
  | some jw =>
    obtain ⟨j, want⟩ := jw
    cases hb : (ops[j]?).bind (·.dst) with
    | none => simp only [opS, trO, hg, hb] at h; exact h.elim
    | some s =>
      by_cases hs : s < N
      · simp only [opS, trO, hg, hb, hs, if_true] at h
        have hy := act_yield (ρ := ρ) hb hs
        have hwant : Region.wanted o (yielded ops (act N ρ).tmps) = (boolOf (ρ s) == some want) := by
          simp only [Region.wanted, hg, hy]
        rw [hwant]
        have hskip : K (act N (upd ρ o.dst undef)) w → K ((act N ρ).put o.dst undef) w := by
          intro hh
          rw [act_put _ _ _ _ hd]
          exact hh
        unfold grdP at h
        split at h
        · rename_i b hv
          split at h
          · rename_i hbw; subst hbw
            rw [if_pos (by simp [hv, boolOf])]
            exact run h
          · rename_i hbw
            rw [if_neg (by simp [hv, boolOf, hbw])]
            exact ⟨fun _ _ => trivial, hskip h⟩
        · rename_i hv
          rw [if_neg (by
            have : boolOf (ρ s) = none := by
              unfold boolOf
              split
              · rename_i b hb'; exact (hv b hb').elim
              · rfl
            simp [this])]
          exact ⟨fun _ _ => trivial, hskip h⟩
      · simp only [opS, trO, hg, hb, hs, if_false] at h; exact h.elim
theorem trO_dst (o : Oper) : (trO P N ops o).dst = o.dst := by
  unfold trO
  split
  · rfl
  · split
    · split <;> rfl
    · rfl
abbrev trOs (P : Program) (N : Nat) (ops : Array Oper) : List St := ops.toList.map (trO P N ops)
theorem any_ok {ro : Option Nat} {Q : Post} (hd : dOk N ops.toList = true) : ∀ (n : Nat) (listed : Array Bool) (ρ : Env) (w : World) (H : Hold), vcAny P ops (trOs P N ops) (fun ρ w => Q .normal ρ w) n listed ρ w H → wpAnyIn (fz ro) 0 P .any ops (lift N Q) n listed (act N ρ) w
  | 0, listed, ρ, w, H, h => ⟨h.1, ρ, rfl, h.2⟩
  | n + 1, listed, ρ, w, H, h => by
    refine ⟨fun he => ⟨ρ, rfl, h.1 he⟩, fun i hi => ?_⟩
    have h2 := h.2 i hi
    obtain ⟨_, o, ho, _⟩ := mem_ready.1 hi
    have hs : (trOs P N ops)[i]? = some (trO P N ops o) := by simp [trOs, ho]
    simp only [stepE, hs] at h2
    refine op_ok ho (by simpa using List.all_eq_true.1 hd o (List.mem_of_getElem? (by simpa using ho))) (opS_mono (fun v w' hh => ?_) h2)
    have := any_ok (ro := ro) (Q := Q) hd n _ _ _ _ hh.2
    rw [trO_dst] at this
    exact this

def drawD (P : Program) (N : Nat) (ops : Array Oper) (p : Pl) : Option D :=
  if P.follows .mixedOrders && (dOk N ops.toList && (p.siz == ops.size && canB ops (trOs P N ops) (Array.replicate ops.size false) [] p)) then build ops (trOs P N ops) [] p else none
theorem draw_ok {ro : Option Nat} {id : Nat} {p : Pl} {d : D} {Q : Post} {ρ : Env} {w : World} (hd : drawD P N ops p = some d) (h : vcD P d Q ρ (w.drewN 1)) : (Code.region id ops true).wpIn (fz ro) 0 P (lift N Q) (act N ρ) w := by
  unfold drawD at hd
  split at hd
  · rename_i hc
    simp only [Bool.and_eq_true, beq_iff_eq] at hc
    obtain ⟨hm, hdk, hsz, hcan⟩ := hc
    refine wpIn_region_any hm ?_
    rw [← hsz]
    have h1 := buildD_ok (Q := Q) p [] d ρ (w.drewN 1) (fun _ _ => True) hd (fun r => .inl fun _ => trivial) h
    have hlen : ∀ (j : Nat) (o : Oper), ops[j]? = some o → ∃ t, (trOs P N ops)[j]? = some t := fun j o ho => ⟨_, by simp [trOs, ho]; rfl⟩
    have hlen' : ∀ (j : Nat) (t : St), (trOs P N ops)[j]? = some t → j < ops.size := by
      intro j t ht
      rcases Nat.lt_or_ge j ops.size with h | h
      · exact h
      · have : (trOs P N ops)[j]? = none := by simp [trOs, Array.getElem?_eq_none h]
        rw [this] at ht
        cases ht
    have hcl : closed ops (Array.replicate ops.size false) := by
      intro m o _ hm
      have : (Array.replicate ops.size false).getD m false = false := by
        simp only [Array.getD_eq_getD_getElem?, Array.getElem?_replicate]
        split <;> rfl
      rw [this] at hm
      cases hm
    have h2 := (any_plan hlen hlen' p _ [] ρ (w.drewN 1) _ hcl (fun _ _ _ => trivial) hcan h1).1 rfl
    rw [hsz] at h2 ⊢
    exact any_ok hdk _ _ _ _ _ h2
  · cases hd
end
end Go.Proofs.YtmgdkoidgoihfaaGreatDoor.E
