/- A body as a walk over abstract states, its slots as values at hand, dead slots left out; that this is sound. Conditions: none. -/
import Derived.Test.YtmgdkoidgoihfaaGreatDoorF1
namespace Go.Proofs.YtmgdkoidgoihfaaGreatDoor.E
open Go.RowKit

/-! ### Sets of slots as numbers -/
def bits (l : List Nat) : Nat := l.foldr (fun i m => (1 <<< i) ||| m) 0
theorem one_bit (i j : Nat) : (1 <<< i).testBit j = decide (i = j) := by
  rw [Nat.one_shiftLeft, Nat.testBit_two_pow]
theorem bits_mem (l : List Nat) (i : Nat) : (bits l).testBit i = true ↔ i ∈ l := by
  induction l with
  | nil => simp [bits]
  | cons a r ih =>
    have : bits (a :: r) = (1 <<< a) ||| bits r := rfl
    rw [this, Nat.testBit_or, one_bit, Bool.or_eq_true, ih, decide_eq_true_eq, List.mem_cons]
    constructor
    · rintro (h | h)
      · exact .inl h.symm
      · exact .inr h
    · rintro (h | h)
      · exact .inl h.symm
      · exact .inr h
def slots (m : Nat) : List Nat := (List.range (m.log2 + 1)).filter fun i => m.testBit i
theorem slots_mem (m i : Nat) : i ∈ slots m ↔ m.testBit i = true := by
  simp only [slots, List.mem_filter, List.mem_range]
  constructor
  · exact fun h => h.2
  · intro h
    refine ⟨?_, h⟩
    have h1 := Nat.ge_two_pow_of_testBit h
    have h2 : m ≠ 0 := by
      rintro rfl
      simp at h
    have := (Nat.le_log2 h2).2 h1
    omega
def wrM (s : S) : Nat := bits (wrS s)
/-- m without slot d. -/
def cut1 (m : Nat) : Option Nat → Nat
  | some d => m ^^^ (m &&& (1 <<< d))
  | none => m
theorem cut1_bit {m i : Nat} {d : Option Nat} (h : m.testBit i = true) (hd : d ≠ some i) : (cut1 m d).testBit i = true := by
  cases d with
  | none => exact h
  | some d =>
    have hn : ¬ d = i := fun e => hd (by rw [e])
    unfold cut1
    rw [Nat.testBit_xor, Nat.testBit_and, one_bit]
    simp [h, hn]

/-! ### Operations under one guard together -/
inductive G where
  | one (i : St)
  | grp (g : Nat) (want : Bool) (l : List St)
def bare (i : St) : St := ⟨i.dst, none, i.ins⟩
def under (g : Nat) (want : Bool) (i : St) : St := ⟨i.dst, some (g, want), i.ins⟩
def grpL : List St → List G
  | [] => []
  | i :: r =>
    match i.grd with
    | none => .one i :: grpL r
    | some (g, w) =>
      match grpL r with
      | .grp g' w' l :: r' => if g = g' ∧ w = w' ∧ i.dst ≠ some g then .grp g w (bare i :: l) :: r' else .grp g w [bare i] :: .grp g' w' l :: r'
      | r' => .grp g w [bare i] :: r'
def unG : List G → List St
  | [] => []
  | .one i :: r => i :: unG r
  | .grp g w l :: r => l.map (under g w) ++ unG r
theorem unG_grpL : ∀ l : List St, unG (grpL l) = l
  | [] => rfl
  | i :: r => by
    have ih := unG_grpL r
    unfold grpL
    split
    · simp [unG, ih]
    · rename_i g w hg
      have hb : under g w (bare i) = i := by cases i; cases hg; rfl
      split
      · rename_i g' w' l r' hr
        rw [hr] at ih
        split
        · rename_i hc
          obtain ⟨rfl, rfl, _⟩ := hc
          simp only [unG, List.map_cons, List.cons_append, hb] at ih ⊢
          rw [ih]
        · simp only [unG, List.map_cons, List.map_nil, List.cons_append, List.nil_append, hb] at ih ⊢
          rw [ih]
      · simp only [unG, List.map_cons, List.map_nil, List.cons_append, List.nil_append, hb, ih]

/-! ### Which slots are still read -/
def liveL : List St → Nat → Nat
  | [], out => out
  | i :: r, out => cut1 (liveL r out) i.dst ||| bits (stR i)
def liveG : List G → Nat → Nat
  | [], out => out
  | .one i :: r, out => cut1 (liveG r out) i.dst ||| bits (stR i)
  | .grp g _ l :: r, out => (1 <<< g) ||| liveL l (liveG r out)
def liveD : D → Nat → Nat
  | .ops l, out => liveG (grpL l) out
  | .alt l a b, out => liveG (grpL l) (liveD a out ||| liveD b out)
def live : S → Nat → (Nat → Nat) → Nat → Nat
  | .skip, out, _, _ => out
  | .ops l, out, _, _ => liveG (grpL l) out
  | .draw d, out, _, _ => liveD d out
  | .seq a b, out, ex, rt => live a (live b out ex rt) ex rt ||| (live b out ex rt ^^^ (live b out ex rt &&& wrM a))
  | .cond c a b, out, ex, rt => bits (argR c) ||| (live a out ex rt ||| live b out ex rt)
  | .blk id a, out, ex, rt => live a out (fun i => if i = id then out else ex i) rt
  | .loop a, _, ex, rt => live a 0 ex rt
  | .exit id, _, ex, _ => ex id
  | .ret, _, _, rt => rt
  | .bad, _, _, _ => 0
  | .rng N x _ _ _ a b, out, _, _ => bits (argR x) ||| ((1 <<< N) ||| (out ||| live a (live b 0 (fun _ => 0) 0) (fun _ => 0) 0))

abbrev Kont := Env → AS → Prop
def gv (xs : List Value) (i : Nat) : Value := xs.getD i undef
def setL (ρ : Env) (xs : List Value) : List Nat → Nat → Env
  | [], _ => ρ
  | l :: L, k => up (setL ρ xs L (k + 1)) l (gv xs k)
theorem setL_off (ρ : Env) (xs : List Value) : ∀ (L : List Nat) (k i : Nat), i ∉ L → setL ρ xs L k i = ρ i
  | [], _, _, _ => rfl
  | l :: L, k, i, h => by
    simp only [List.mem_cons, not_or] at h
    simp only [setL, up, if_neg h.1]
    exact setL_off ρ xs L (k + 1) i h.2
theorem setL_on (ρ ρ' : Env) : ∀ (L : List Nat) (pre : List Value) (i : Nat), i ∈ L → setL ρ (pre ++ L.map ρ') L pre.length i = ρ' i
  | [], _, _, h => by cases h
  | l :: L, pre, i, h => by
    simp only [setL, up]
    by_cases e : i = l
    · subst e
      simp [gv]
    · rw [if_neg e]
      have := setL_on ρ ρ' L (pre ++ [ρ' l]) i (by simpa [e] using h)
      simpa using this
theorem setL_get (ρ ρ' : Env) (L : List Nat) (i : Nat) : setL ρ (L.map ρ') L 0 i = if i ∈ L then ρ' i else ρ i := by
  split
  · rename_i h; simpa using setL_on ρ ρ' L [] i h
  · rename_i h; exact setL_off _ _ _ _ _ h

def kJoin (J : List Value → AS → Prop) (body : (List Value → AS → Prop) → Prop) : Prop := body J
def kLoop (body : (List Value → AS → Prop) → List Value → AS → Prop) (xs : List Value) (s : AS) (_ : Dm body := ()) : Prop :=
  ∃ I : Nat → List Value → AS → Prop, (∃ n, I n xs s) ∧ ∀ n xs s, I n xs s → body (fun xs' s' => ∃ n', n' < n ∧ I n' xs' s') xs s
def kAlt (X Y : Prop) : Prop := X ∧ Y

def dsts (l : List St) : List Nat := l.flatMap dstL
def denL (P : Program) : List St → Env → AS → Kont → Prop
  | [], ρ, s, K => K ρ s
  | i :: r, ρ, s, K => insA P i.ins ρ s fun v s' => denL P r (upd ρ i.dst v) s' K
/-- A piece that is carried out just if a test says so; what it leaves are values. -/
def kGrd (v : Value) (want : Bool) (X : (List Value → AS → Prop) → Prop) (us : List Value) (s : AS) (k : List Value → AS → Prop) (_ : Dm X := ()) (_ : Dm k := ()) : Prop := match v with | .bool b => if b = want then X k else k us s | _ => k us s
def denG (P : Program) : List G → Nat → Env → AS → Kont → Prop
  | [], _, ρ, s, K => K ρ s
  | .one i :: r, lv, ρ, s, K => match i.grd with | none => insA P i.ins ρ s fun v s' => denG P r lv (upd ρ i.dst v) s' K | some _ => False
  | .grp g want l :: r, lv, ρ, s, K =>
    Bool.rec (motive := fun _ => Prop) False
      (kGrd (ρ g) want (fun k => denL P l ρ s fun ρ' s' => k ((slots (bits (dsts l) &&& liveG r lv)).map ρ') s')
        ((slots (bits (dsts l) &&& liveG r lv)).map fun _ => undef) s
        (fun xs s' => denG P r lv (setL ρ xs (slots (bits (dsts l) &&& liveG r lv)) 0) s' K))
      (l.all (fun i => i.grd.isNone && i.dst != some g))
def denD (P : Program) : D → Nat → Env → AS → Kont → Prop
  | .ops l, lv, ρ, s, K => denG P (grpL l) lv ρ s K
  | .alt l a b, lv, ρ, s, K => denG P (grpL l) (liveD a lv ||| liveD b lv) ρ s fun ρ s => kAlt (denD P a lv ρ s K) (denD P b lv ρ s K)
def straight : S → Bool
  | .ops _ | .draw (.ops _) | .skip => true
  | _ => false
def small : S → Bool
  | .skip | .ret | .exit _ => true
  | _ => false
def den (P : Program) : S → Nat → (Nat → Nat) → Nat → Env → AS → Kont → (Nat → Kont) → Kont → Prop
  | .skip, _, _, _, ρ, s, K, _, _ => K ρ s
  | .ops l, lv, _, _, ρ, s, K, _, _ => denG P (grpL l) lv ρ s K
  | .draw d, lv, _, _, ρ, s, K, _, _ => denD P d lv ρ s K
  | .seq a b, lv, ex, rt, ρ, s, K, E, R =>
    Bool.rec (motive := fun _ => Prop)
      (kJoin (fun xs s' => den P b lv ex rt (setL ρ xs (slots (wrM a &&& live b lv ex rt)) 0) s' K E R) fun J =>
        den P a (live b lv ex rt) ex rt ρ s (fun ρ' s' => J ((slots (wrM a &&& live b lv ex rt)).map ρ') s') E R)
      (den P a (live b lv ex rt) ex rt ρ s (fun ρ' s' => den P b lv ex rt ρ' s' K E R) E R)
      (straight a || small b)
  | .cond c a b, lv, ex, rt, ρ, s, K, E, R => kCond (c.ev ρ) (den P a lv ex rt ρ s K E R) (den P b lv ex rt ρ s K E R)
  | .blk id a, lv, ex, rt, ρ, s, K, E, R => den P a lv (fun i => if i = id then lv else ex i) rt ρ s K (fun i => if i = id then K else E i) R
  | .loop a, _, ex, rt, ρ, s, _, E, R =>
    if live a (live a 0 ex rt) ex rt ||| live a 0 ex rt = live a 0 ex rt then
      kLoop (fun again xs s =>
        den P a (live a 0 ex rt) ex rt (setL ρ xs (slots (wrM a &&& live a 0 ex rt)) 0) s (fun ρ' s' => again ((slots (wrM a &&& live a 0 ex rt)).map ρ') s') E R) ((slots (wrM a &&& live a 0 ex rt)).map ρ) s
    else False
  | .exit id, _, _, _, ρ, s, _, E, _ => E id ρ s
  | .ret, _, _, _, ρ, s, _, _, R => R ρ s
  | .bad, _, _, _, _, _, _, _, _ => False
  | .rng N x ps _ _ a b, _, _, _, ρ, s, K, _, _ =>
    if decide ps.toList.Nodup then
      kRng P (x.ev ρ) (fun xs s' bg k => xs.length = ps.size ∧ den P a (live b 0 (fun _ => 0) 0) (fun _ => 0) 0 (up (setL ρ xs ps.toList 0) N undef) s'
          (fun ρ' s'' => bg s'' fun s3 => den P b 0 (fun _ => 0) 0 ρ' s3 (fun _ s4 => k s4) (fun _ _ _ => False) (fun _ _ => False)) (fun _ _ _ => False) (fun _ _ => False)) s
        (fun m s' => K (up ρ N (consM m (ρ N))) s')
    else False

/-! ### Soundness -/
def Agr (m : Nat) (ρ ρ' : Env) : Prop := ∀ i, m.testBit i = true → ρ i = ρ' i
structure Stt (σ0 : AS) (w0 : World) (σ : AS) (w : World) : Prop where
  sat : Sat σ w
  keep : KeepP σ0.live w0 w
  fol : Fol σ0 σ
def qEnd (K : Kont) (E : Nat → Kont) (R : Kont) : Exit → Env → AS → Prop := fun e ρ s => match e with | .normal => K ρ s | .exit i => E i ρ s | .ret => R ρ s | _ => False
def mEnd (lv : Nat) (ex : Nat → Nat) (rt : Nat) : Exit → Nat := fun e => match e with | .normal => lv | .exit i => ex i | _ => rt
def QQ (σ0 : AS) (w0 : World) (lv : Nat) (ex : Nat → Nat) (rt : Nat) (K : Kont) (E : Nat → Kont) (R : Kont) : Post := fun e ρa w => ∃ ρ σ, Agr (mEnd lv ex rt e) ρ ρa ∧ Stt σ0 w0 σ w ∧ qEnd K E R e ρ σ
section
variable {P : Program} {σ0 : AS} {w0 : World} {ρ ρa : Env} {σ : AS} {w : World} {lv rt : Nat} {ex : Nat → Nat} {K : Kont} {X : Nat → Kont} {R : Kont}
theorem Agr.orL {a b : Nat} {ρ ρ' : Env} (h : Agr (a ||| b) ρ ρ') : Agr a ρ ρ' := fun i hi => h i (by simp [Nat.testBit_or, hi])
theorem Agr.orR {a b : Nat} {ρ ρ' : Env} (h : Agr (a ||| b) ρ ρ') : Agr b ρ ρ' := fun i hi => h i (by simp [Nat.testBit_or, hi])
theorem Agr.mk_or {a b : Nat} {ρ ρ' : Env} (h : Agr a ρ ρ') (k : Agr b ρ ρ') : Agr (a ||| b) ρ ρ' := fun i hi => by
  simp only [Nat.testBit_or, Bool.or_eq_true] at hi
  rcases hi with hi | hi
  · exact h i hi
  · exact k i hi
theorem Agr.upd_ {m : Nat} {d : Option Nat} {ρ ρ' : Env} (h : Agr (cut1 m d) ρ ρ') (v : Value) : Agr m (upd ρ d v) (upd ρ' d v) := fun i hi => by
  cases d with
  | none => exact h i hi
  | some d =>
    simp only [upd, up]
    split
    · rfl
    · rename_i hn
      exact h i (cut1_bit hi (fun e => hn (by injection e with e; exact e.symm)))
theorem Agr.of_bits {l : List Nat} {ρ ρ' : Env} (h : Agr (bits l) ρ ρ') : ∀ t, t ∈ l → ρ t = ρ' t := fun t ht => h t ((bits_mem l t).2 ht)
/-- Slots that are handed on one by one. -/
theorem Agr.handed {m : Nat} {W : List Nat} {ρ ρ1 ρ2 : Env} (h : ∀ i, i ∈ W → m.testBit i = true → ρ1 i = ρ2 i) (ho : ∀ i, i ∉ W → m.testBit i = true → ρ i = ρ2 i) : Agr m (setL ρ ((slots (bits W &&& m)).map ρ1) (slots (bits W &&& m)) 0) ρ2 := by
  intro i hi
  rw [setL_get]
  split
  · rename_i hm
    rw [slots_mem, Nat.testBit_and, Bool.and_eq_true] at hm
    exact h i ((bits_mem _ _).1 hm.1) hi
  · rename_i hn
    refine ho i (fun hw => hn ?_) hi
    rw [slots_mem, Nat.testBit_and, hi, Bool.and_true]
    exact (bits_mem _ _).2 hw
theorem Stt.out {k : Value → AS → Prop} {v : Value} {w' : World} (h : Stt σ0 w0 σ w) (hz : size w0 = σ0.n) (ho : Out σ w k v w') : ∃ σ', Stt σ0 w0 σ' w' ∧ k v σ' := by
  obtain ⟨h1, σ', h2, h3, h4⟩ := ho
  exact ⟨σ', ⟨h2, h.keep.step h1 (fun i hi => by
    rcases h.fol.m i hi with h | h
    · exact .inl h
    · exact .inr (by omega)), h.fol.trans h3⟩, h4⟩

theorem denL_ok (hz : size w0 = σ0.n) {Q : Post} : ∀ {l : List St} {lv : Nat} {ρ ρa : Env} {σ : AS} {w : World}, denL P l ρ σ K → (∀ i ∈ l, i.grd = none) → Agr (liveL l lv) ρ ρa → Stt σ0 w0 σ w →
    (∀ ρ ρa σ w, Agr lv ρ ρa → Stt σ0 w0 σ w → K ρ σ → Q .normal ρa w) → vcL P l Q ρa w
  | [], lv, ρ, ρa, σ, w, h, _, ha, hs, hq => hq _ _ _ _ ha hs h
  | i :: r, lv, ρ, ρa, σ, w, h, hg, ha, hs, hq => by
    have hr : ∀ t, t ∈ insR i.ins → ρ t = ρa t := fun t ht => ha.orR.of_bits t (by simp [stR, ht])
    replace h : insA P i.ins ρ σ fun v s' => denL P r (upd ρ i.dst v) s' K := h
    rw [insA_congr hr] at h
    simp only [vcL, hg i (by simp)]
    refine vcI_mono ?_ (insA_ok h hs.sat)
    intro v w' ho
    obtain ⟨σ', hs', hv⟩ := hs.out hz ho
    exact denL_ok hz hv (fun j hj => hg j (by simp [hj])) (ha.orL.upd_ _) hs' hq
/-- Operations under a guard: either all of them are carried out, or none. -/
theorem under_run {g : Nat} {want : Bool} {Q : Post} : ∀ {l : List St} {ρ : Env} {w : World}, (∀ i ∈ l, i.grd = none ∧ i.dst ≠ some g) → ρ g = .bool want → vcL P l Q ρ w → vcL P (l.map (under g want)) Q ρ w
  | [], _, _, _, _, h => h
  | i :: r, ρ, w, hl, hg, h => by
    have h1 := hl i (by simp)
    simp only [vcL, h1.1] at h
    simp only [List.map_cons, vcL, under, grdP, hg, if_true]
    refine vcI_mono ?_ h
    intro v w' h
    refine under_run (fun j hj => hl j (by simp [hj])) ?_ h
    cases hd : i.dst with
    | none => exact hg
    | some d =>
      have : ¬ g = d := fun e => h1.2 (by rw [hd, e])
      simp only [upd, up, if_neg this]; exact hg
theorem under_skip {g : Nat} {want : Bool} {Q : Post} : ∀ {l : List St} {ρ : Env} {w : World}, (∀ i ∈ l, i.grd = none ∧ i.dst ≠ some g) → (∀ b, ρ g = .bool b → b ≠ want) → (∀ ρ', (∀ i, ρ' i = if i ∈ dsts l then undef else ρ i) → Q .normal ρ' w) → vcL P (l.map (under g want)) Q ρ w
  | [], ρ, w, _, _, hq => hq ρ (fun i => by simp [dsts])
  | i :: r, ρ, w, hl, hg, hq => by
    have h1 := hl i (by simp)
    have next : vcL P (r.map (under g want)) Q (upd ρ i.dst undef) w := by
      refine under_skip (fun j hj => hl j (by simp [hj])) ?_ ?_
      · cases hd : i.dst with
        | none => exact hg
        | some d =>
          have : ¬ g = d := fun e => h1.2 (by rw [hd, e])
          simp only [upd, up, if_neg this]; exact hg
      · intro ρ' hρ
        refine hq ρ' (fun j => ?_)
        rw [hρ j]
        cases hd : i.dst with
        | none => simp [dsts, dstL, hd, upd]
        | some d =>
          simp only [dsts, List.flatMap_cons, dstL, hd, List.mem_append, List.mem_singleton, upd, up]
          by_cases e : j = d <;> by_cases e2 : j ∈ r.flatMap dstL <;> simp [e, e2]
    simp only [List.map_cons, vcL, under, grdP]
    split
    · rename_i b hb
      rw [if_neg (hg b hb)]
      exact next
    · exact next
theorem wrL_under (g : Nat) (want : Bool) : ∀ l : List St, wrL (l.map (under g want)) = dsts l
  | [] => rfl
  | i :: r => by
    have := wrL_under g want r
    simp only [List.map_cons, wrL, this, dsts, List.flatMap_cons]
    rfl
theorem wrL_dsts : ∀ l : List St, wrL l = dsts l
  | [] => rfl
  | i :: r => by
    have := wrL_dsts r
    simp only [wrL, this, dsts, List.flatMap_cons]
    rfl

theorem denG_ok (hz : size w0 = σ0.n) {Q : Post} : ∀ {l : List G} {lv : Nat} {ρ ρa : Env} {σ : AS} {w : World}, denG P l lv ρ σ K → Agr (liveG l lv) ρ ρa → Stt σ0 w0 σ w →
    (∀ ρ ρa σ w, Agr lv ρ ρa → Stt σ0 w0 σ w → K ρ σ → Q .normal ρa w) → vcL P (unG l) Q ρa w
  | [], lv, ρ, ρa, σ, w, h, ha, hs, hq => hq _ _ _ _ ha hs h
  | .one i :: r, lv, ρ, ρa, σ, w, h, ha, hs, hq => by
    simp only [denG] at h
    split at h
    · rename_i hg
      have hr : ∀ t, t ∈ insR i.ins → ρ t = ρa t := fun t ht => ha.orR.of_bits t (by simp [stR, ht])
      rw [insA_congr hr] at h
      simp only [unG, vcL, hg]
      refine vcI_mono ?_ (insA_ok h hs.sat)
      intro v w' ho
      obtain ⟨σ', hs', hv⟩ := hs.out hz ho
      exact denG_ok hz hv (ha.orL.upd_ _) hs' hq
    · exact h.elim
  | .grp g want l :: r, lv, ρ, ρa, σ, w, h, ha, hs, hq => by
    simp only [denG] at h
    cases hall : l.all (fun i => i.grd.isNone && i.dst != some g) with
    | false => rw [hall] at h; exact h.elim
    | true =>
      rw [hall] at h
      replace ha : Agr ((1 <<< g) ||| liveL l (liveG r lv)) ρ ρa := ha
      have hl : ∀ i ∈ l, i.grd = none ∧ i.dst ≠ some g := fun i hi => by
        have := List.all_eq_true.1 hall i hi
        simpa using this
      have hgv : ρ g = ρa g := ha.orL g (by rw [one_bit]; simp)
      simp only [unG]
      rw [vcL_append]
      have cont : ∀ (ρ1 ρ2 : Env) (σ' : AS) (w' : World), (∀ i, i ∈ dsts l → (liveG r lv).testBit i = true → ρ1 i = ρ2 i) → (∀ i, i ∉ dsts l → (liveG r lv).testBit i = true → ρ i = ρ2 i) → Stt σ0 w0 σ' w' →
          denG P r lv (setL ρ ((slots (bits (dsts l) &&& liveG r lv)).map ρ1) (slots (bits (dsts l) &&& liveG r lv)) 0) σ' K → vcL P (unG r) Q ρ2 w' :=
        fun ρ1 ρ2 σ' w' h1 h2 h3 h4 => denG_ok hz h4 (Agr.handed h1 h2) h3 hq
      have keep : ∀ i, i ∉ dsts l → (liveG r lv).testBit i = true → ρ i = ρa i := by
        have key : ∀ (l : List St) (m : Nat) (i : Nat), i ∉ dsts l → m.testBit i = true → (liveL l m).testBit i = true := by
          intro l
          induction l with
          | nil => intro m i _ h; exact h
          | cons j l ih =>
            intro m i hn h
            simp only [dsts, List.flatMap_cons, List.mem_append, not_or] at hn
            simp only [liveL, Nat.testBit_or, Bool.or_eq_true]
            refine .inl (cut1_bit (ih m i hn.2 h) (fun e => hn.1 ?_))
            simp [dstL, e]
        exact fun i hn hi => ha.orR i (key l _ i hn hi)
      unfold kGrd at h
      split at h
      · rename_i b hb
        split at h
        · rename_i hbw
          subst hbw
          refine under_run hl (by rw [← hgv, hb]) ?_
          refine vcL_mono ?_ (vcL_off (denL_ok hz (Q := fun e ρ2 w' => ∃ ρ1 σ', e = .normal ∧ Agr (liveG r lv) ρ1 ρ2 ∧ Stt σ0 w0 σ' w' ∧ denG P r lv (setL ρ ((slots (bits (dsts l) &&& liveG r lv)).map ρ1) (slots (bits (dsts l) &&& liveG r lv)) 0) σ' K)
            h (fun i hi => (hl i hi).1) ha.orR hs (fun ρ1 ρ2 σ' w' h1 h2 h3 => ⟨ρ1, σ', rfl, h1, h2, h3⟩)))
          rintro e ρ2 w' ⟨⟨ρ1, σ', rfl, h1, h2, h3⟩, ho⟩
          refine cont ρ1 ρ2 σ' w' (fun i _ hi => h1 i hi) (fun i hn hi => ?_) h2 h3
          rw [ho i (by rw [wrL_dsts]; exact hn)]
          exact keep i hn hi
        · rename_i hbw
          refine under_skip hl (fun b' hb' => ?_) ?_
          · rw [← hgv, hb] at hb'
            injection hb' with hb'; subst hb'; exact hbw
          · intro ρ' hρ
            refine cont (fun _ => undef) ρ' σ w (fun i hm _ => by rw [hρ i, if_pos hm]) (fun i hn hi => ?_) hs h
            · rw [hρ i, if_neg hn]; exact keep i hn hi
      · rename_i hnb
        refine under_skip hl (fun b' hb' => ?_) ?_
        · rw [← hgv] at hb'
          exact (hnb b' hb').elim
        · intro ρ' hρ
          refine cont (fun _ => undef) ρ' σ w (fun i hm _ => by rw [hρ i, if_pos hm]) (fun i hn hi => ?_) hs h
          · rw [hρ i, if_neg hn]; exact keep i hn hi
theorem denD_ok (hz : size w0 = σ0.n) {Q : Post} : ∀ {d : D} {lv : Nat} {ρ ρa : Env} {σ : AS} {w : World}, denD P d lv ρ σ K → Agr (liveD d lv) ρ ρa → Stt σ0 w0 σ w →
    (∀ ρ ρa σ w, Agr lv ρ ρa → Stt σ0 w0 σ w → K ρ σ → Q .normal ρa w) → vcD P d Q ρa w
  | .ops l, lv, ρ, ρa, σ, w, h, ha, hs, hq => by
    show vcL P l Q ρa w
    rw [← unG_grpL l]
    exact denG_ok hz h ha hs hq
  | .alt l a b, lv, ρ, ρa, σ, w, h, ha, hs, hq => by
    show vcL P l (fun _ ρ w => vcD P a Q ρ w ∧ vcD P b Q ρ w) ρa w
    rw [← unG_grpL l]
    refine denG_ok hz (K := fun ρ s => kAlt (denD P a lv ρ s K) (denD P b lv ρ s K)) h ha hs ?_
    intro ρ1 ρ2 σ' w' h1 h2 h3
    exact ⟨denD_ok hz h3.1 h1.orL h2 hq, denD_ok hz h3.2 h1.orR h2 hq⟩

theorem qq_end {lv lv' : Nat} {K K' : Kont} (e : Exit) (he : e ≠ .normal) (ρ : Env) (w : World) (h : QQ σ0 w0 lv ex rt K X R e ρ w) : QQ σ0 w0 lv' ex rt K' X R e ρ w := by
  obtain ⟨ρ', σ', h1, h2, h3⟩ := h
  cases e with
  | normal => exact (he rfl).elim
  | _ => exact ⟨ρ', σ', h1, h2, h3⟩

/-- What a range over a function has is what its code has been turned into. -/
def wfS (P : Program) : S → Prop
  | .seq a b => wfS P a ∧ wfS P b
  | .cond _ a b => wfS P a ∧ wfS P b
  | .blk _ a => wfS P a
  | .loop a => wfS P a
  | .rng N _ _ as bd a b => (∃ hs, a = trS P N hs as ∧ b = trS P N hs bd) ∧ noR a = true ∧ noR b = true ∧ wfS P a ∧ wfS P b
  | _ => True
theorem trS_wf {N : Nat} {hs : Hints} : ∀ c : Code, wfS P (trS P N hs c) := by
  intro c
  induction c with
  | region id ops draw =>
    cases draw with
    | false => simp only [trS]; split <;> trivial
    | true => simp only [trS]; split <;> trivial
  | seq a b iha ihb => exact ⟨iha, ihb⟩
  | cond c a b iha ihb =>
    simp only [trS]
    split
    · exact ⟨iha, ihb⟩
    · trivial
  | block id a ih => exact ih
  | loop a ih => exact ih
  | scope a ih => exact ih
  | rangeFunc g ps as bd iha ihb =>
    simp only [trS]
    split
    · split
      · rename_i hc
        simp only [Bool.and_eq_true] at hc
        exact ⟨⟨hs, rfl, rfl⟩, hc.2.1, hc.2.2, iha, ihb⟩
      · trivial
    · trivial
  | _ => trivial
theorem setPs_setL (ρ : Env) : ∀ (ps : List Nat) (pre vs : List Value) (i : Nat), ps.Nodup → vs.length = ps.length → setPs ρ ps vs i = setL ρ (pre ++ vs) ps pre.length i
  | [], _, vs, i, _, hl => by cases vs <;> rfl
  | p :: ps, pre, [], i, _, hl => by simp at hl
  | p :: ps, pre, v :: vs, i, hn, hl => by
    rw [List.nodup_cons] at hn
    have ih := fun (ρ : Env) => setPs_setL ρ ps (pre ++ [v]) vs i hn.2 (by simpa using hl)
    have e1 : setPs ρ (p :: ps) (v :: vs) i = setPs (up ρ p v) ps vs i := rfl
    have e2 : setL ρ (pre ++ v :: vs) (p :: ps) pre.length i = up (setL ρ (pre ++ v :: vs) ps (pre.length + 1)) p (gv (pre ++ v :: vs) pre.length) i := rfl
    have e3 : gv (pre ++ v :: vs) pre.length = v := by simp [gv]
    rw [e1, e2, e3, ih]
    have e4 : pre ++ [v] ++ vs = pre ++ v :: vs := by simp
    rw [e4, List.length_append, List.length_singleton]
    simp only [up]
    by_cases hi : i = p
    · subst hi
      rw [if_pos rfl, setL_off _ _ _ _ _ hn.1, up, if_pos rfl]
    · rw [if_neg hi]
      have : ∀ (L : List Nat) (k : Nat), setL (up ρ p v) (pre ++ v :: vs) L k i = setL ρ (pre ++ v :: vs) L k i := by
        intro L
        induction L with
        | nil => intro k; simp [setL, up, hi]
        | cons l L ih => intro k; simp only [setL, up]; split <;> first | rfl | exact ih _
      exact this _ _
theorem setPs_agr {m : Nat} {ρ ρa : Env} {ps : List Nat} {vs : List Value} {N : Nat} (hn : ps.Nodup) (hl : vs.length = ps.length) (h : Agr m ρ ρa) : Agr m (up (setL ρ vs ps 0) N undef) (up (setPs ρa ps vs) N undef) := by
  intro i hi
  simp only [up]
  split
  · rfl
  · rw [setPs_setL ρa ps [] vs i hn hl]
    have : ∀ (L : List Nat) (k : Nat), setL ρ ([] ++ vs) L k i = setL ρa ([] ++ vs) L k i := by
      intro L
      induction L with
      | nil => intro k; exact h i hi
      | cons l L ih => intro k; simp only [setL, up]; split <;> first | rfl | exact ih _
    exact this ps 0
theorem den_ok : ∀ (s : S), wfS P s → ∀ {σ0 : AS} {w0 : World} (hz : size w0 = σ0.n) {lv rt : Nat} {ex : Nat → Nat} {ρ ρa : Env} {σ : AS} {w : World} {K : Kont} {X : Nat → Kont} {R : Kont}, den P s lv ex rt ρ σ K X R → Agr (live s lv ex rt) ρ ρa → Stt σ0 w0 σ w → vcS P s (QQ σ0 w0 lv ex rt K X R) ρa w := by
  intro s
  induction s with
  | skip => intro hwf σ0 w0 hz lv rt ex ρ ρa σ w K X R h ha hs; exact ⟨ρ, σ, ha, hs, h⟩
  | ops l =>
    intro hwf σ0 w0 hz lv rt ex ρ ρa σ w K X R h ha hs
    show vcL P l _ ρa w
    rw [← unG_grpL l]
    exact denG_ok hz h ha hs (fun ρ ρa σ w h1 h2 h3 => ⟨ρ, σ, h1, h2, h3⟩)
  | draw d =>
    intro hwf σ0 w0 hz lv rt ex ρ ρa σ w K X R h ha hs
    have hs' : Stt σ0 w0 σ (w.drewN 1) := ⟨hs.sat.drewN 1, hs.keep.step (KeepP.drewN (fun _ => False) w 1) (fun _ h => h.elim), hs.fol⟩
    exact denD_ok hz h ha hs' (fun ρ ρa σ w h1 h2 h3 => ⟨ρ, σ, h1, h2, h3⟩)
  | seq a b iha ihb =>
    intro hwf σ0 w0 hz lv rt ex ρ ρa σ w K X R h ha hs
    replace ha : Agr (live a (live b lv ex rt) ex rt ||| (live b lv ex rt ^^^ (live b lv ex rt &&& wrM a))) ρ ρa := ha
    show vcS P a (thenQ (vcS P b (QQ σ0 w0 lv ex rt K X R)) (QQ σ0 w0 lv ex rt K X R)) ρa w
    simp only [den] at h
    cases hsb : (straight a || small b) with
    | true =>
      rw [hsb] at h
      refine vcS_mono ?_ (iha hwf.1 hz h ha.orL hs)
      intro e ρ1 w1 hq
      cases e with
      | normal =>
        obtain ⟨ρ', σ', h1, h2, h3⟩ := hq
        exact ihb hwf.2 hz h3 h1 h2
      | _ => exact qq_end _ (by simp) _ _ hq
    | false =>
      rw [hsb] at h
      refine vcS_mono ?_ (vcS_off (iha hwf.1 hz h ha.orL hs))
      intro e ρ1 w1 ⟨hq, ho⟩
      cases e with
      | normal =>
        obtain ⟨ρ', σ', h1, h2, h3⟩ := hq
        refine ihb hwf.2 hz h3 (Agr.handed (fun i _ hi => h1 i hi) (fun i hn hi => ?_)) h2
        rw [ho i hn]
        refine ha.orR i ?_
        have hw : (wrM a).testBit i = false := by
          cases hb : (wrM a).testBit i
          · rfl
          · exact (hn ((bits_mem _ _).1 hb)).elim
        rw [Nat.testBit_xor, Nat.testBit_and, hi, hw]; rfl
      | _ => exact qq_end _ (by simp) _ _ hq
  | cond c a b iha ihb =>
    intro hwf σ0 w0 hz lv rt ex ρ ρa σ w K X R h ha hs
    replace ha : Agr (bits (argR c) ||| (live a lv ex rt ||| live b lv ex rt)) ρ ρa := ha
    have hc : c.ev ρ = c.ev ρa := arg_congr (ha.orL.of_bits)
    show condP (c.ev ρa) _ _
    replace h : kCond (c.ev ρ) (den P a lv ex rt ρ σ K X R) (den P b lv ex rt ρ σ K X R) := h
    rw [hc] at h
    unfold kCond at h
    split at h
    · rename_i hv; rw [hv]; exact iha hwf.1 hz h ha.orR.orL hs
    · rename_i hv; rw [hv]; exact ihb hwf.2 hz h ha.orR.orR hs
    · exact h.elim
  | blk id a ih =>
    intro hwf σ0 w0 hz lv rt ex ρ ρa σ w K X R h ha hs
    show vcS P a (blkQ id (QQ σ0 w0 lv ex rt K X R)) ρa w
    refine vcS_mono ?_ (ih hwf hz h ha hs)
    intro e ρ1 w1 hq
    cases e with
    | exit i =>
      obtain ⟨ρ', σ', h1, h2, h3⟩ := hq
      simp only [blkQ]
      replace h1 : Agr (if i = id then lv else ex i) ρ' ρ1 := h1
      replace h3 : (if i = id then K else X i) ρ' σ' := h3
      by_cases hi : i = id
      · rw [if_pos hi]
        rw [if_pos hi] at h1 h3
        exact ⟨ρ', σ', h1, h2, h3⟩
      · rw [if_neg hi]
        rw [if_neg hi] at h1 h3
        exact ⟨ρ', σ', h1, h2, h3⟩
    | _ =>
      obtain ⟨ρ', σ', h1, h2, h3⟩ := hq
      exact ⟨ρ', σ', h1, h2, h3⟩
  | loop a ih =>
    intro hwf σ0 w0 hz lv rt ex ρ ρa σ w K X R h ha hs
    replace ha : Agr (live a 0 ex rt) ρ ρa := ha
    simp only [den] at h
    split at h
    · rename_i hfix
      obtain ⟨I, ⟨n0, h0⟩, hr⟩ := h
      refine ⟨fun n ρ1 w1 => ∃ xs σ1, I n xs σ1 ∧ Agr (live a 0 ex rt) (setL ρ xs (slots (wrM a &&& live a 0 ex rt)) 0) ρ1 ∧ Stt σ0 w0 σ1 w1 ∧ Off (wrS a) ρa ρ1, ⟨n0, _, σ, h0, ?_, hs, Off.refl _ _⟩, ?_⟩
      · exact Agr.handed (fun i _ hi => ha i hi) (fun i _ hi => ha i hi)
      · intro n ρ1 w1 ⟨xs, σ1, hi, ha1, hs1, ho1⟩
        have hsub : ∀ i, (live a (live a 0 ex rt) ex rt).testBit i = true → (live a 0 ex rt).testBit i = true := fun i hi => by
          rw [← hfix, Nat.testBit_or, hi, Bool.true_or]
        refine vcS_mono ?_ (vcS_off (ih hwf hz (hr n xs σ1 hi) (fun i hi => ha1 i (hsub i hi)) hs1))
        intro e ρ2 w2 ⟨hq, ho⟩
        cases e with
        | normal =>
          obtain ⟨ρ', σ', h1, h2, n', hn, h3⟩ := hq
          refine ⟨n', hn, _, σ', h3, Agr.handed (fun i _ hi => h1 i hi) (fun i hn hi => ?_), h2, Off.trans ho1 ho⟩
          rw [(Off.trans ho1 ho) i hn]
          exact ha i hi
        | _ => exact qq_end _ (by simp) _ _ hq
    · exact h.elim
  | exit id => intro hwf σ0 w0 hz lv rt ex ρ ρa σ w K X R h ha hs; exact ⟨ρ, σ, ha, hs, h⟩
  | ret => intro hwf σ0 w0 hz lv rt ex ρ ρa σ w K X R h ha hs; exact ⟨ρ, σ, ha, hs, h⟩
  | bad => intro hwf σ0 w0 hz lv rt ex ρ ρa σ w K X R h ha hs; exact h.elim
  | rng N x ps as bd a b iha ihb =>
    intro hwf σ0 w0 hz lv rt ex ρ ρa σ w K X R h ha hs
    replace ha : Agr (bits (argR x) ||| ((1 <<< N) ||| (lv ||| live a (live b 0 (fun _ => 0) 0) (fun _ => 0) 0))) ρ ρa := ha
    obtain ⟨⟨hh, ea, eb⟩, hna, hnb, hwa, hwb⟩ := hwf
    have hx : x.ev ρ = x.ev ρa := arg_congr (ha.orL.of_bits)
    simp only [den] at h
    split at h
    · rename_i hnd
      have hnd := of_decide_eq_true hnd
      rw [hx] at h
      show rngP P N (x.ev ρa) ps as bd ρa w _
      unfold kRng at h
      split at h
      · rename_i g first cap hf
        obtain ⟨hok, h⟩ := h
        rw [hf]
        dsimp only [rngP]
        refine ⟨hok, fun fn => ?_⟩
        have hsz := hs.sat.sz
        have hk := h (.loop (recL N ρa ps as bd (size w) fn .ready)) (.loop (recL N ρa ps as bd (size w) fn .busy)) ?_
        · have s1 : Sat (σ.new (.other (.deferred (some [])))) (w.alloc (.deferred (some []))) := hs.sat.new_ (fun _ he => he)
          have s2 := s1.new_ (o := .loop (recL N ρa ps as bd (size w) fn .ready)) (ob := .other (.loop (recL N ρa ps as bd (size w) fn .ready))) (fun _ he => he)
          have hc := hk _ s2
          rw [← hsz] at hc
          refine callP_mono hc ?_
          rintro v w' ⟨hkeep, σ', hsat', hfol', hm, hK⟩
          have hl : w'.heap[size w + 1]? = some (.loop (recL N ρa ps as bd (size w) fn .ready)) := hsat'.m _ _ hm
          refine ⟨hl, _, σ'.put (size w + 1) (.other (.loop (recL N ρa ps as bd (size w) fn .exhausted))), ?_, ⟨?_, ?_, ?_⟩, hK _⟩
          · intro i hi
            simp only [up]
            split
            · rename_i e
              have e2 : ρ N = ρa N := ha.orR.orL N (by rw [one_bit]; simp)
              rw [e2]
            · exact ha.orR.orR.orL i hi
          · exact hsat'.obj_ hm _
          · have k1 : KeepP σ.live w (w.alloc (.deferred (some []))) := KeepP.alloc _ _ _
            have k2 := k1.step (KeepP.alloc (fun _ => False) (w.alloc (.deferred (some []))) (.loop (recL N ρa ps as bd (size w) fn .ready))) (fun _ h => h.elim)
            have hlive : ∀ i, AS.live ((σ.new (.other (.deferred (some [])))).new (.other (.loop (recL N ρa ps as bd (size w) fn .ready)))) i → σ.live i ∨ size w ≤ i := by
              intro i hi
              unfold AS.live at hi ⊢
              by_cases e1 : i = σ.n + 1
              · exact .inr (by omega)
              · rw [new_ne (by rw [new_n]; exact e1)] at hi
                by_cases e2 : i = σ.n
                · exact .inr (by omega)
                · rw [new_ne e2] at hi
                  exact .inl hi
            have k3 := k2.step hkeep hlive
            have k4 := k3.step (KeepP.obj_ (S := fun i => i = size w + 1) rfl (.loop (recL N ρa ps as bd (size w) fn .exhausted))) (fun i hi => .inr (by omega))
            exact hs.keep.step k4 (fun i hi => by
              rcases hs.fol.m i hi with h | h
              · exact .inl h
              · exact .inr (by omega))
          · exact ((hs.fol.trans (Fol.new _ _)).trans (Fol.new _ _)).trans (hfol'.trans (Fol.put _ _ _))
        · intro args σ1 k' hm1 hB w1 hw1
          obtain ⟨hlen, hB⟩ := hB
          have hl1 : w1.heap[σ.n + 1]? = some (.loop (recL N ρa ps as bd (size w) fn .ready)) := hw1.m _ _ hm1
          have hsz1 := hw1.sz
          refine yld_ok (N := N) (hs := hh) (ρ := ρa) hl1 hlen ⟨ea ▸ hna, eb ▸ hnb⟩ ?_
          rw [← ea, ← eb]
          have hagr : Agr (live a (live b 0 (fun _ => 0) 0) (fun _ => 0) 0) (up (setL ρ args ps.toList 0) N undef) (up (setPs ρa ps.toList args) N undef) :=
            setPs_agr hnd (by simpa using hlen) ha.orR.orR.orR
          refine vcS_mono ?_ (iha hwa (σ0 := σ1) (w0 := w1) hsz1 hB hagr ⟨hw1, KeepP.refl _ _, Fol.refl _⟩)
          rintro e ρ2 w2 ⟨ρ2', σ2, h1, h2, h3⟩
          cases e with
          | normal =>
            obtain ⟨hm2, h3⟩ := h3
            refine ⟨h2.sat.m _ _ hm2, ?_⟩
            have hs3 : Stt σ1 w1 (σ2.put (σ.n + 1) (.other (.loop (recL N ρa ps as bd (size w) fn .busy)))) (w2.putObj (σ.n + 1) (.loop (recL N ρa ps as bd (size w) fn .busy))) :=
              ⟨h2.sat.obj_ hm2 _, h2.keep.step (KeepP.obj_ (S := fun i => i = σ.n + 1) rfl _) (fun i hi => .inl (by rw [hi]; unfold AS.live; rw [hm1]; simp)), h2.fol.trans (Fol.put _ _ _)⟩
            refine vcS_mono ?_ (ihb hwb hsz1 h3 h1 hs3)
            rintro e ρ4 w4 ⟨ρ4', σ4, h5, h6, h7⟩
            cases e with
            | normal =>
              obtain ⟨hm4, h7⟩ := h7
              refine ⟨h6.sat.m _ _ hm4, ?_⟩
              exact ⟨h6.keep.step (KeepP.obj_ (S := fun i => i = σ.n + 1) rfl _) (fun i hi => .inl (by rw [hi]; unfold AS.live; rw [hm1]; simp)), _, h6.sat.obj_ hm4 _, h6.fol.trans (Fol.put _ _ _), h7⟩
            | exit i => exact h7.elim
            | ret => exact h7.elim
            | goto l => exact h7.elim
            | panic ch => exact h7.elim
            | outgrown => exact h7.elim
          | exit i => exact h3.elim
          | ret => exact h3.elim
          | goto l => exact h3.elim
          | panic ch => exact h3.elim
          | outgrown => exact h3.elim
      · exact h.elim
    · exact h.elim

/-! ### Functions -/
def kRet : List RV → Env → AS → (List Value → Prop) → Prop
  | [], _, _, k => k []
  | .t i :: r, ρ, s, k => kRet r ρ s fun vs => k (ρ i :: vs)
  | .ld i :: r, ρ, s, k => kLd s (ρ i) fun v => kRet r ρ s fun vs => k (v :: vs)
  | .ldN n i :: r, ρ, s, k => kLdN s n (ρ i) fun v => kRet r ρ s fun vs => k (v :: vs)
def rvR : List RV → List Nat
  | [] => []
  | .t i :: r | .ld i :: r | .ldN _ i :: r => i :: rvR r
def denF (P : Program) (sf : SF) (args : List Value) (s : AS) (k : Value → AS → Prop) : Prop :=
  den P sf.body (bits (sf.n :: rvR sf.res)) (fun _ => 0) (bits (sf.n :: rvR sf.res)) (ini args) s (fun ρ s' => kFin P (valsOf (ρ sf.n)) s' fun s' => kRet sf.res ρ s' fun vs => k (tupV vs) s') (fun _ _ _ => False) (fun ρ s' => kFin P (valsOf (ρ sf.n)) s' fun s' => kRet sf.res ρ s' fun vs => k (tupV vs) s')
theorem kRet_ok (hs : Sat σ w) : ∀ {l : List RV} {k : List Value → Prop} {ρ ρa : Env}, kRet l ρ σ k → Agr (bits (rvR l)) ρ ρa → resP l ρa w k
  | [], k, ρ, ρa, h, _ => h
  | .t i :: r, k, ρ, ρa, h, ha => by
    have := kRet_ok hs (l := r) h (ρa := ρa) (fun j hj => ha j ((bits_mem _ _).2 (by simp [rvR, (bits_mem _ _).1 hj])))
    have e : ρ i = ρa i := ha i ((bits_mem _ _).2 (by simp [rvR]))
    rw [e] at this
    exact this
  | .ld i :: r, k, ρ, ρa, h, ha => by
    have e : ρ i = ρa i := ha i ((bits_mem _ _).2 (by simp [rvR]))
    obtain ⟨v, hv, hk⟩ := seqO_ex (show seqO (ldS σ (ρ i)) _ from h)
    rw [e] at hv
    show seqO (ldV w (ρa i)) _
    rw [hs.ldS hv]
    exact kRet_ok hs (l := r) hk (fun j hj => ha j ((bits_mem _ _).2 (by simp [rvR, (bits_mem _ _).1 hj])))
  | .ldN n i :: r, k, ρ, ρa, h, ha => by
    have e : ρ i = ρa i := ha i ((bits_mem _ _).2 (by simp [rvR]))
    obtain ⟨v, hv, hk⟩ := seqO_ex (show seqO (ldNS σ n (ρ i)) _ from h)
    rw [e] at hv
    show seqO (ldNV w n (ρa i)) _
    rw [hs.ldN hv]
    exact kRet_ok hs (l := r) hk (fun j hj => ha j ((bits_mem _ _).2 (by simp [rvR, (bits_mem _ _).1 hj])))
theorem kFin_ok {σ0 : AS} {w0 : World} : ∀ {l : List Value} {σ : AS} {w : World} {k : AS → Prop} {k' : World → Prop}, kFin P l σ k → Stt σ0 w0 σ w → size w0 = σ0.n → (∀ σ w, Stt σ0 w0 σ w → k σ → k' w) → finP P l w k'
  | [], σ, w, k, k', h, hs, _, hk => hk _ _ hs h
  | x :: r, σ, w, k, k', h, hs, hz, hk => by
    unfold kFin at h
    split at h
    · rename_i heq; cases heq
    · rename_i kd D r' heq
      injection heq with e1 e2
      subst e1; subst e2
      obtain ⟨hm, h⟩ := h
      refine ⟨hs.sat.m _ _ hm, kFin_ok h ⟨hs.sat.obj_ hm _, hs.keep.step (KeepP.obj_ (S := fun i => i = D.toNat) rfl _) (fun i hi => ?_), hs.fol.trans (Fol.put _ _ _)⟩ hz hk⟩
      subst hi
      rcases hs.fol.m D.toNat (by rw [hm]; simp) with h | h
      · exact .inl h
      · exact .inr (by omega)
    · rename_i f first cap r' heq
      injection heq with e1 e2
      subst e1; subst e2
      obtain ⟨hok, h⟩ := h
      refine ⟨hok, CallsDIn.mono (h w hs.sat) ?_⟩
      rintro e u' w' ⟨hu, v, he, hkp, σ', h2, h3, h4⟩
      refine ⟨hu, v, he, kFin_ok h4 ⟨h2, hs.keep.step hkp (fun i hi => ?_), hs.fol.trans h3⟩ hz hk⟩
      rcases hs.fol.m i hi with h | h
      · exact .inl h
      · exact .inr (by omega)
    · exact h.elim
/-- A function's contract, out of its walk. -/
theorem denF_ok {hints : Hints} {f : FuncId} {sf : SF} {args : List Value} {k : Value → AS → Prop} (hf : trF P hints f = some sf) (ha : args.length = sf.k) (h : denF P sf args σ k) : kCall P f args σ k := by
  intro w hs
  refine fn_ok hf ha ?_
  have hwf : wfS P sf.body := by
    simp only [trF, Option.bind_eq_some_iff] at hf
    obtain ⟨fn, hfn, c, hc, rs, hrs, hf⟩ := hf
    split at hf
    · injection hf with hf; subst hf; exact trS_wf c
    · cases hf
  refine vcS_mono ?_ (den_ok sf.body hwf (σ0 := σ) (w0 := w) hs.sz h (ρa := ini args) (fun _ _ => rfl) ⟨hs, KeepP.refl _ _, Fol.refl _⟩)
  rintro e ρ w' ⟨ρ', σ', h1, h2, h3⟩
  have key : Agr (bits (sf.n :: rvR sf.res)) ρ' ρ → kFin P (valsOf (ρ' sf.n)) σ' (fun σ' => kRet sf.res ρ' σ' (fun vs => k (tupV vs) σ')) → finP P (valsOf (ρ sf.n)) w' fun w' => resP sf.res ρ w' fun vs => KeepP σ.live w w' ∧ ∃ σ', Sat σ' w' ∧ Fol σ σ' ∧ k (tupV vs) σ' := by
    intro h1 h3
    have hN : ρ' sf.n = ρ sf.n := h1 _ ((bits_mem _ _).2 (by simp))
    rw [hN] at h3
    refine kFin_ok h3 h2 hs.sz (fun σ' w' h2 h3 => ?_)
    have := kRet_ok (k := fun vs => KeepP σ.live w w' ∧ ∃ σ', Sat σ' w' ∧ Fol σ σ' ∧ k (tupV vs) σ') h2.sat (l := sf.res) (ρ := ρ') (ρa := ρ) ?_ (fun i hi => h1 i ((bits_mem _ _).2 (List.mem_cons_of_mem _ ((bits_mem _ _).1 hi))))
    · exact this
    · have mono : ∀ (l : List RV) (k k' : List Value → Prop), (∀ vs, k vs → k' vs) → kRet l ρ' σ' k → kRet l ρ' σ' k' := by
        intro l
        induction l with
        | nil => intro k k' hk h; exact hk _ h
        | cons x r ih =>
          intro k k' hk h
          cases x with
          | t i => exact ih _ _ (fun vs h => hk _ h) h
          | ld i => exact seqO_mono (fun v hv => ih _ _ (fun vs h => hk _ h) hv) h
          | ldN n i => exact seqO_mono (fun v hv => ih _ _ (fun vs h => hk _ h) hv) h
      exact mono _ _ _ (fun vs h => ⟨h2.keep, σ', h2.sat, h2.fol, h⟩) h3
  cases e with
  | normal => exact key h1 h3
  | ret => exact key h1 h3
  | exit i => exact h3.elim
  | goto i => exact h3.elim
  | panic i => exact h3.elim
  | outgrown => exact h3.elim
/-- A function that is called at an end, out of its walk. -/
theorem denF_okD {hints : Hints} {f : FuncId} {sf : SF} {args : List Value} {k : AS → Prop} (hf : trF P hints f = some sf) (ha : args.length = sf.k) (hn : (wrS sf.body).contains sf.n = false) (h : denF P sf args σ fun _ s => k s) : kDfr P f args σ k := by
  intro w hs
  refine fnD_ok hf ha hn ?_
  have hwf : wfS P sf.body := by
    simp only [trF, Option.bind_eq_some_iff] at hf
    obtain ⟨fn, hfn, c, hc, rs, hrs, hf⟩ := hf
    split at hf
    · injection hf with hf; subst hf; exact trS_wf c
    · cases hf
  refine vcS_mono ?_ (den_ok sf.body hwf (σ0 := σ) (w0 := w) hs.sz h (ρa := ini args) (fun _ _ => rfl) ⟨hs, KeepP.refl _ _, Fol.refl _⟩)
  rintro e ρ w' ⟨ρ', σ', h1, h2, h3⟩
  have key : Agr (bits (sf.n :: rvR sf.res)) ρ' ρ → kFin P (valsOf (ρ' sf.n)) σ' (fun σ' => kRet sf.res ρ' σ' (fun vs => k σ')) → finP P (valsOf (ρ sf.n)) w' fun w' => resP sf.res ρ w' fun vs => KeepP σ.live w w' ∧ ∃ σ', Sat σ' w' ∧ Fol σ σ' ∧ k σ' := by
    intro h1 h3
    have hN : ρ' sf.n = ρ sf.n := h1 _ ((bits_mem _ _).2 (by simp))
    rw [hN] at h3
    refine kFin_ok h3 h2 hs.sz (fun σ' w' h2 h3 => ?_)
    have := kRet_ok (k := fun vs => KeepP σ.live w w' ∧ ∃ σ', Sat σ' w' ∧ Fol σ σ' ∧ k σ') h2.sat (l := sf.res) (ρ := ρ') (ρa := ρ) ?_ (fun i hi => h1 i ((bits_mem _ _).2 (List.mem_cons_of_mem _ ((bits_mem _ _).1 hi))))
    · exact this
    · have mono : ∀ (l : List RV) (k k' : List Value → Prop), (∀ vs, k vs → k' vs) → kRet l ρ' σ' k → kRet l ρ' σ' k' := by
        intro l
        induction l with
        | nil => intro k k' hk h; exact hk _ h
        | cons x r ih =>
          intro k k' hk h
          cases x with
          | t i => exact ih _ _ (fun vs h => hk _ h) h
          | ld i => exact seqO_mono (fun v hv => ih _ _ (fun vs h => hk _ h) hv) h
          | ldN n i => exact seqO_mono (fun v hv => ih _ _ (fun vs h => hk _ h) hv) h
      exact mono _ _ _ (fun vs h => ⟨h2.keep, σ', h2.sat, h2.fol, h⟩) h3
  cases e with
  | normal => exact key h1 h3
  | ret => exact key h1 h3
  | exit i => exact h3.elim
  | goto i => exact h3.elim
  | panic i => exact h3.elim
  | outgrown => exact h3.elim
end
end Go.Proofs.YtmgdkoidgoihfaaGreatDoor.E
