/- What each instruction asks of an abstract state, and that this is sound. Conditions: none. -/
import Derived.Test.YtmgdkoidgoihfaaGreatDoorF0
namespace Go.Proofs.YtmgdkoidgoihfaaGreatDoor.E
open Go.RowKit

/-! ### The steps of a walk, what comes behind each of them as a function -/
/-- A mark that hangs on what comes behind: simp leaves that alone. -/
@[reducible] def Dm.{u} {α : Sort u} (_ : α) : Type := Unit
def kPick (c a b : Value) (k : Value → Prop) (_ : Dm k := ()) : Prop := seqO (asB c) fun t => k (if t then a else b)
def kBin (op : BinOp) (x y : Value) (k : Value → Prop) (_ : Dm k := ()) : Prop := seqO (binV op x y) k
def kSft (op : BinOp) (x y : Value) (k : Value → Prop) (_ : Dm k := ()) : Prop := seqO (sftV op x y) k
def kEq (kd : Nat) (neg : Bool) (x y : Value) (k : Value → Prop) (_ : Dm k := ()) : Prop := seqO (eqV kd x y) fun b => k (.bool (b != neg))
def kEqi (neg : Bool) (x y : Value) (k : Value → Prop) (_ : Dm k := ()) : Prop := seqO (eqI x y) fun b => k (.bool (b != neg))
def kUn (op : UnOp) (x : Value) (k : Value → Prop) (_ : Dm k := ()) : Prop := seqO (unV op x) k
def kLd (s : AS) (x : Value) (k : Value → Prop) (_ : Dm k := ()) : Prop := seqO (ldS s x) k
def kLdN (s : AS) (n : Nat) (x : Value) (k : Value → Prop) (_ : Dm k := ()) : Prop := seqO (ldNS s n x) k
def kSt (s : AS) (n : Nat) (x y : Value) (k : AS → Prop) (_ : Dm k := ()) : Prop := seqO (stS s n x y) k
def kNew (s : AS) (l : List Value) (k : Value → AS → Prop) (_ : Dm k := ()) : Prop := k (.pointer (some ⟨s.n, 0, none⟩)) (s.new (.cells l))
/-- Blocks of such types are kept with their types: a struct of two fields whose first one points at such a struct, and what holds one. -/
def selfB (P : Program) (t : TypeId) : Bool := match P.underlying t with
  | some (.struct fs) => fs.size == 2 && (match fs[0]? with | some f => (match P.underlying f.type with | some (.pointer e) => e == t | _ => false) | none => false)
  | _ => false
def hasB (P : Program) : Nat → TypeId → Bool
  | 0, _ => false
  | n + 1, t => selfB P t || (match P.underlying t with | some (.struct fs) => fs.toList.any fun f => hasB P n f.type | _ => false)
def kNewT (s : AS) (t : TypeId) (l : List Value) (k : Value → AS → Prop) (_ : Dm k := ()) : Prop := k (.pointer (some ⟨s.n, 0, none⟩)) (s.new (.typed t l))
def kBuild (z : List Value) (ps : List (Nat × Nat × Value)) (k : Value → Prop) (_ : Dm k := ()) : Prop := seqO (lay z ps) fun l => k (.agg l.toArray)
def kBsl (s : AS) (n : Nat) (z : List Value) (ps : List (Nat × Nat × Value)) (k : Value → AS → Prop) (_ : Dm k := ()) : Prop := seqO (lay z ps) fun l => k (.slice (some ⟨s.n, 0, none⟩) n n) (s.new (.cells l))
def kNck (x : Value) (k : Value → Prop) (_ : Dm k := ()) : Prop := seqO (nckV x) k
def kFld (off : Nat) (x : Value) (k : Value → Prop) (_ : Dm k := ()) : Prop := seqO (fldV off x) k
def kGet (off : Nat) (x : Value) (k : Value → Prop) (_ : Dm k := ()) : Prop := seqO (get1V off x) k
def kGetN (off n : Nat) (x : Value) (k : Value → Prop) (_ : Dm k := ()) : Prop := seqO (getNV off n x) k
def kIdx (sz : Nat) (x i : Value) (k : Value → Prop) (_ : Dm k := ()) : Prop := seqO (idxV sz x i) k
def kIdxA (len sz : Nat) (x i : Value) (k : Value → Prop) (_ : Dm k := ()) : Prop := seqO (idxAV len sz x i) k
def kIxS (x i : Value) (k : Value → Prop) (_ : Dm k := ()) : Prop := seqO (ixSV x i) k
def kSubS (x : Value) (lo hi : Option Value) (k : Value → Prop) (_ : Dm k := ()) : Prop := seqO (subSV x lo hi) k
def kSubL (sz : Nat) (x : Value) (lo hi : Option Value) (k : Value → Prop) (_ : Dm k := ()) : Prop := seqO (subLV sz x lo hi) k
def kSubA (len sz : Nat) (x : Value) (lo hi : Option Value) (k : Value → Prop) (_ : Dm k := ()) : Prop := seqO (subAV len sz x lo hi) k
def kCvi (kd : IntKind) (x : Value) (k : Value → Prop) (_ : Dm k := ()) : Prop := seqO (cviV kd x) k
def kCvSS (x : Value) (k : Value → Prop) (_ : Dm k := ()) : Prop := seqO (cssV x) k
def kExt (i : Nat) (x : Value) (k : Value → Prop) (_ : Dm k := ()) : Prop := seqO (extV i x) k
def kLen (s : Bool) (x : Value) (k : Value → Prop) (_ : Dm k := ()) : Prop := seqO (lenV s x) k
def kMin (x y : Value) (k : Value → Prop) (_ : Dm k := ()) : Prop := seqO (min2V x y) k
def kMax (x y : Value) (k : Value → Prop) (_ : Dm k := ()) : Prop := seqO (max2V x y) k
/-- A row of bytes as a string. -/
def kCvBS (s : AS) (x : Value) (k : Value → Prop) (_ : Dm k := ()) : Prop :=
  match x with
  | .slice none _ _ => k (.string (bs []))
  | .slice (some a) n _ => a.spot = none ∧ ∃ l : List UInt8, l.length = n ∧ ldsS s a.block a.off n = some (l.map fun b => .int .u8 b.toNat) ∧ k (.string (bs l))
  | _ => False
def kMks (s : AS) (sz bytes : Nat) (z : List Value) (l c : Value) (k : Value → AS → Prop) (_ : Dm k := ()) : Prop :=
  match l, c with
  | .int _ a, .int _ b => 0 ≤ a ∧ a ≤ b ∧ b ≤ 9223372036854775807 ∧ bytes * b ≤ 281474976710656 ∧ z.length = sz ∧ 0 < sz ∧ k (.slice (some ⟨s.n, 0, none⟩) a.toNat b.toNat) (s.new (.cells (List.replicate b.toNat z).flatten))
  | _, _ => False
def kMkm (s : AS) (k : Value → AS → Prop) (_ : Dm k := ()) : Prop := k (.map (some s.n)) (s.new (.other (.map #[] 0)))
def kCall (P : Program) (f : Nat) (args : List Value) (s : AS) (k : Value → AS → Prop) (_ : Dm k := ()) : Prop := Lf (callP P f args) s k
def kYld (P : Program) (l : Nat) (args : List Value) (s : AS) (k : Value → AS → Prop) (_ : Dm k := ()) : Prop := Lf (yldP P l args) s k
def kCallv (P : Program) (f : Value) (args : List Value) (s : AS) (k : Value → AS → Prop) (_ : Dm k := ()) : Prop :=
  match f with
  | .func (.func g) first cap => okFn P g = true ∧ kCall P g (first.toList ++ args ++ cap.toList) s k
  | .func (.yield l) first cap => first = #[] ∧ cap = #[] ∧ kYld P l args s k
  | _ => False
def kApp (P : Program) (t u : TypeId) (x y : Value) (s : AS) (k : Value → AS → Prop) (_ : Dm k := ()) : Prop := Lf (appP P t u x y) s k
def kCpy (P : Program) (t u : TypeId) (x y : Value) (s : AS) (k : Value → AS → Prop) (_ : Dm k := ()) : Prop := Lf (cpyP P t u x y) s k
def kGen (P : Program) (kd : LK) (vs : List Value) (s : AS) (k : Value → AS → Prop) (_ : Dm k := ()) : Prop := Lf (genP P kd vs) s k
def kChk (s : AS) (x v : Value) (k : Prop) (_ : Dm k := ()) : Prop := ldS s x = some v ∧ k
def kChkN (s : AS) (n : Nat) (x v : Value) (k : Prop) (_ : Dm k := ()) : Prop := ldNS s n x = some v ∧ k
/-- A range over a function: what is asked of the iterator, a round being B: whatever the loop's record is. -/
def kRng (P : Program) (fv : Value) (B : List Value → AS → (AS → (AS → Prop) → Prop) → (AS → Prop) → Prop) (s : AS) (k : Value → AS → Prop) (_ : Dm B := ()) (_ : Dm k := ()) : Prop :=
  match fv with
  | .func (.func g) first cap => okFn P g = true ∧ ∀ (o o' : Obj),
      (∀ args σ k', σ.m (s.n + 1) = some (.other o) → B args σ (fun σ1 k1 => σ1.m (s.n + 1) = some (.other o) ∧ k1 (σ1.put (s.n + 1) (.other o'))) (fun σ2 => σ2.m (s.n + 1) = some (.other o') ∧ k' (.bool true) (σ2.put (s.n + 1) (.other o))) → kYld P (s.n + 1) args σ k') →
      kCall P g (first.toList ++ [.func (.yield (s.n + 1)) #[] #[]] ++ cap.toList) ((s.new (.other (.deferred (some [])))).new (.other o)) fun _ σ' => σ'.m (s.n + 1) = some (.other o) ∧ ∀ o2, k (.int .i64 s.n) (σ'.put (s.n + 1) (.other o2))
  | _ => False
/-- What is done behind a body's end: the blocks of ranges over functions are shut. -/
def kDfr (P : Program) (f : Nat) (args : List Value) (s : AS) (k : AS → Prop) : Prop := Lf (fun w kk => dfrP P f args w fun w' => kk undef w') s fun _ s' => k s'
def kFin (P : Program) : List Value → AS → (AS → Prop) → Prop
  | [], s, k => k s
  | .int _ D :: r, s, k => s.m D.toNat = some (.other (.deferred (some []))) ∧ kFin P r (s.put D.toNat (.other (.deferred none))) k
  | .func (.func f) first cap :: r, s, k => okFn P f = true ∧ kDfr P f (first.toList ++ cap.toList) s fun s => kFin P r s k
  | _, _, _ => False
def kCond (v : Value) (X Y : Prop) (_ : Dm X := ()) (_ : Dm Y := ()) : Prop := match v with | .bool true => X | .bool false => Y | _ => False

def insA (P : Program) (i : Ins) (ρ : Env) (s : AS) (k : Value → AS → Prop) : Prop :=
  match i with
  | .mov x => k (x.ev ρ) s
  | .pick c a b => kPick (c.ev ρ) (a.ev ρ) (b.ev ρ) fun v => k v s
  | .bin op x y => kBin op (x.ev ρ) (y.ev ρ) fun v => k v s
  | .sft op x y => kSft op (x.ev ρ) (y.ev ρ) fun v => k v s
  | .eq kd neg x y => kEq kd neg (x.ev ρ) (y.ev ρ) fun v => k v s
  | .eqi neg x y => kEqi neg (x.ev ρ) (y.ev ρ) fun v => k v s
  | .un op x => kUn op (x.ev ρ) fun v => k v s
  | .load x => kLd s (x.ev ρ) fun v => k v s
  | .loadN n x => kLdN s n (x.ev ρ) fun v => k v s
  | .store n x y => kSt s n (x.ev ρ) (y.ev ρ) fun s' => k undef s'
  | .alloc t z => match hasB P 4 t with | true => kNewT s t z k | false => kNew s z k
  | .box t x => match hasB P 4 t with | true => kNewT s t (cellsV (x.ev ρ)) k | false => kNew s (cellsV (x.ev ρ)) k
  | .build z ps => kBuild z (layA ρ ps) fun v => k v s
  | .bsl _ n z ps => kBsl s n z (layA ρ ps) k
  | .nck x => kNck (x.ev ρ) fun v => k v s
  | .fld off x => kFld off (x.ev ρ) fun v => k v s
  | .get1 off x => kGet off (x.ev ρ) fun v => k v s
  | .getN off n x => kGetN off n (x.ev ρ) fun v => k v s
  | .idx sz x i => kIdx sz (x.ev ρ) (i.ev ρ) fun v => k v s
  | .idxA len sz x i => kIdxA len sz (x.ev ρ) (i.ev ρ) fun v => k v s
  | .ixS x i => kIxS (x.ev ρ) (i.ev ρ) fun v => k v s
  | .subS x lo hi => kSubS (x.ev ρ) (lo.map (Arg.ev ρ)) (hi.map (Arg.ev ρ)) fun v => k v s
  | .subL sz x lo hi => kSubL sz (x.ev ρ) (lo.map (Arg.ev ρ)) (hi.map (Arg.ev ρ)) fun v => k v s
  | .subA len sz x lo hi => kSubA len sz (x.ev ρ) (lo.map (Arg.ev ρ)) (hi.map (Arg.ev ρ)) fun v => k v s
  | .cvi kd x => kCvi kd (x.ev ρ) fun v => k v s
  | .cvBS x => kCvBS s (x.ev ρ) fun v => k v s
  | .cvSS x => kCvSS (x.ev ρ) fun v => k v s
  | .mkf f a b => k (.func (.func f) (argsV ρ a).toArray (argsV ρ b).toArray) s
  | .mks _ sz bytes z l c => kMks s sz bytes z (l.ev ρ) (c.ev ρ) k
  | .mkm => kMkm s k
  | .ext i x => kExt i (x.ev ρ) fun v => k v s
  | .len b x => kLen b (x.ev ρ) fun v => k v s
  | .min2 x y => kMin (x.ev ρ) (y.ev ρ) fun v => k v s
  | .max2 x y => kMax (x.ev ρ) (y.ev ρ) fun v => k v s
  | .call f as => kCall P f (argsV ρ as) s k
  | .callv x as => kCallv P (x.ev ρ) (argsV ρ as) s k
  | .app t u x y => kApp P t u (x.ev ρ) (y.ev ρ) s k
  | .cpy t u x y => kCpy P t u (x.ev ρ) (y.ev ρ) s k
  | .gen kd xs => kGen P kd (argsV ρ xs) s k
  | .chk x d => kChk s (x.ev ρ) (ρ d) (k undef s)
  | .chkN n x d => kChkN s n (x.ev ρ) (ρ d) (k undef s)
  | .bad => False

/-- What comes out of a world that fits. -/
def Out (σ : AS) (w : World) (k : Value → AS → Prop) : Value → World → Prop := fun v w' => KeepP σ.live w w' ∧ ∃ σ', Sat σ' w' ∧ Fol σ σ' ∧ k v σ'
section
variable {P : Program} {ρ : Env} {σ : AS} {w : World} {k : Value → AS → Prop}
theorem Out.same (h : Sat σ w) {v : Value} (hk : k v σ) : Out σ w k v w := ⟨KeepP.refl _ _, σ, h, Fol.refl _, hk⟩
theorem Out.new (h : Sat σ w) {v : Value} {l : List Value} (t : TypeId) (hk : k v (σ.new (.cells l))) : Out σ w k v (new w l t) := ⟨KeepP.new_ _ _ _ _, _, h.new l t, Fol.new _ _, hk⟩
theorem Out.newT (h : Sat σ w) {v : Value} {l : List Value} (t : TypeId) (hk : k v (σ.new (.typed t l))) : Out σ w k v (E.new w l t) := ⟨KeepP.new_ _ _ _ _, _, h.new_ (o := .cells l.toArray t) (ob := .typed t l) (fun _ he => he), Fol.new _ _, hk⟩
theorem pure_ok {o : Option Value} {k' : Value → Prop} (h : Sat σ w) (hk : seqO o k') (hh : ∀ v, k' v → k v σ) : seqO o fun v => Out σ w k v w :=
  seqO_mono (fun v hv => Out.same h (hh v hv)) hk

theorem insA_ok {i : Ins} (h : insA P i ρ σ k) (hs : Sat σ w) : vcI P i ρ w (Out σ w k) := by
  cases i
  case mov x => exact Out.same hs h
  case mkf => exact Out.same hs h
  case pick c a b => exact seqO_mono (k := fun t : Bool => k (if t then a.ev ρ else b.ev ρ) σ) (k' := fun t => Out σ w k (if t then a.ev ρ else b.ev ρ) w) (fun v hv => Out.same hs hv) h
  case eq kd neg x y => exact seqO_mono (fun v hv => Out.same hs hv) (k := fun b => k (.bool (b != neg)) σ) h
  case eqi neg x y => exact seqO_mono (fun v hv => Out.same hs hv) (k := fun b => k (.bool (b != neg)) σ) h
  case load x =>
    obtain ⟨v, hv, hk⟩ := seqO_ex (show seqO (ldS σ (x.ev ρ)) fun v => k v σ from h)
    show seqO (ldV w (x.ev ρ)) _
    rw [hs.ldS hv]
    exact Out.same hs hk
  case loadN n x =>
    obtain ⟨v, hv, hk⟩ := seqO_ex (show seqO (ldNS σ n (x.ev ρ)) fun v => k v σ from h)
    show seqO (ldNV w n (x.ev ρ)) _
    rw [hs.ldN hv]
    exact Out.same hs hk
  case store n x y =>
    obtain ⟨σ', hv, hk⟩ := seqO_ex (show seqO (stS σ n (x.ev ρ) (y.ev ρ)) fun s' => k undef s' from h)
    obtain ⟨w', h1, h2, h3, h4⟩ := hs.stS hv
    show seqO (stV w n (x.ev ρ) (y.ev ρ)) _
    rw [h1]
    exact ⟨h3, σ', h2, h4, hk⟩
  case alloc t z =>
    show Out σ w k (.pointer (some ⟨size w, 0, none⟩)) (new w z t)
    rw [hs.sz]
    simp only [insA] at h
    split at h
    · exact Out.newT hs t h
    · exact Out.new hs t h
  case box t x =>
    show Out σ w k (.pointer (some ⟨size w, 0, none⟩)) (new w (cellsV (x.ev ρ)) t)
    rw [hs.sz]
    simp only [insA] at h
    split at h
    · exact Out.newT hs t h
    · exact Out.new hs t h
  case build z ps => exact seqO_mono (k := fun l : List Value => k (.agg l.toArray) σ) (k' := fun l => Out σ w k (.agg l.toArray) w) (fun v hv => Out.same hs hv) h
  case bsl e n z ps =>
    obtain ⟨l, hl, hk⟩ := seqO_ex (show seqO (lay z (layA ρ ps)) fun l => k (.slice (some ⟨σ.n, 0, none⟩) n n) (σ.new (.cells l)) from h)
    show seqO (lay z (layA ρ ps)) _
    rw [hl]
    show Out σ w k (.slice (some ⟨size w, 0, none⟩) n n) (new w l e)
    rw [hs.sz]
    exact Out.new hs e hk
  case cvBS x =>
    replace h : kCvBS σ (x.ev ρ) (fun v => k v σ) := h
    show cvBSP w (x.ev ρ) fun v => Out σ w k v w
    unfold kCvBS at h
    split at h
    · rename_i hx; rw [hx]; exact Out.same hs h
    · rename_i a n c hx
      obtain ⟨ha, l, h1, h2, h3⟩ := h
      rw [hx]
      exact ⟨l, h1, hs.lds ha (i := 0) h2, Out.same hs h3⟩
    · exact h.elim
  case mks e sz bytes z l c =>
    replace h : kMks σ sz bytes z (l.ev ρ) (c.ev ρ) k := h
    show mksP e sz bytes z (l.ev ρ) (c.ev ρ) w _
    unfold kMks at h
    split at h
    · rename_i hx hy
      obtain ⟨h1, h2, h3, h4, h5, h6, h7⟩ := h
      rw [hx, hy]
      unfold mksP
      rw [hs.sz]
      exact ⟨h1, h2, h3, h4, h5, h6, Out.new hs e h7⟩
    · exact h.elim
  case mkm =>
    show Out σ w k (.map (some (size w))) (w.alloc (.map #[] 0))
    rw [hs.sz]
    exact ⟨KeepP.alloc _ _ _, _, hs.new_ (ob := .other (.map #[] 0)) (fun _ he => he), Fol.new _ _, h⟩
  case call f as => exact h w hs
  case callv x as =>
    replace h : kCallv P (x.ev ρ) (argsV ρ as) σ k := h
    show callvP P (x.ev ρ) (argsV ρ as) w _
    unfold kCallv at h
    split at h
    · rename_i hx
      rw [hx]
      exact ⟨h.1, h.2 w hs⟩
    · rename_i hx
      rw [hx]
      exact ⟨h.1, h.2.1, h.2.2 w hs⟩
    · exact h.elim
  case app t u x y => exact h w hs
  case cpy t u x y => exact h w hs
  case gen kd xs => exact h w hs
  case chk x d => exact ⟨hs.ldS h.1, Out.same hs h.2⟩
  case chkN n x d => exact ⟨hs.ldN h.1, Out.same hs h.2⟩
  case bad => exact h.elim
  all_goals exact pure_ok hs h (fun _ h => h)

theorem insA_congr {ρ' : Env} {i : Ins} (h : ∀ t, t ∈ insR i → ρ t = ρ' t) : insA P i ρ σ k = insA P i ρ' σ k := by
  cases i <;> simp only [insR, List.mem_append, List.mem_cons] at h <;> simp only [insA]
  case pick a b c => rw [arg_congr (a := a) fun t ht => h t (.inl (.inl ht)), arg_congr (a := b) fun t ht => h t (.inl (.inr ht)), arg_congr (a := c) fun t ht => h t (.inr ht)]
  case build => rw [lays_congr h]
  case bsl => rw [lays_congr h]
  case mkf a b => rw [args_congr (l := a) fun t ht => h t (.inl ht), args_congr (l := b) fun t ht => h t (.inr ht)]
  case call => rw [args_congr h]
  case gen => rw [args_congr h]
  case callv x a => rw [arg_congr (a := x) fun t ht => h t (.inl ht), args_congr (l := a) fun t ht => h t (.inr ht)]
  case subS x a b => rw [arg_congr (a := x) fun t ht => h t (.inl ht), opt_congr (a := a) fun t ht => h t (.inr (.inl ht)), opt_congr (a := b) fun t ht => h t (.inr (.inr ht))]
  case subL x a b => rw [arg_congr (a := x) fun t ht => h t (.inl ht), opt_congr (a := a) fun t ht => h t (.inr (.inl ht)), opt_congr (a := b) fun t ht => h t (.inr (.inr ht))]
  case subA x a b => rw [arg_congr (a := x) fun t ht => h t (.inl ht), opt_congr (a := a) fun t ht => h t (.inr (.inl ht)), opt_congr (a := b) fun t ht => h t (.inr (.inr ht))]
  case chk x d => rw [arg_congr (a := x) fun t ht => h t (.inr ht), h d (.inl rfl)]
  case chkN n x d => rw [arg_congr (a := x) fun t ht => h t (.inr ht), h d (.inl rfl)]
  all_goals first
    | rfl
    | (rename_i x; rw [arg_congr (a := x) h]; done)
    | (rename_i x y; rw [arg_congr (a := x) fun t ht => h t (.inl ht), arg_congr (a := y) fun t ht => h t (.inr ht)]; done)
end
end Go.Proofs.YtmgdkoidgoihfaaGreatDoor.E
