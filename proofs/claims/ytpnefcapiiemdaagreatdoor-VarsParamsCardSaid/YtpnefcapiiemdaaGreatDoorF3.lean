/- Abstract states: what is known of the blocks that may turn, of the cells that stay, and how many blocks there are; what a world has to do with one. Conditions: none. -/
import Derived.Test.YtpnefcapiiemdaaGreatDoorE9
namespace Go.Proofs.YtpnefcapiiemdaaGreatDoor.E
open Go.RowKit

/-- What a block holds that may turn: cells, or another object as it is. -/
inductive Ob where
  | cells (l : List Value)
  | other (o : Obj)
  | typed (t : TypeId) (l : List Value)
def obAt (w : World) (g : Nat) : Ob → Prop
  | .cells l => blk w g = some l
  | .other o => w.heap[g]? = some o
  | .typed t l => w.heap[g]? = some (.cells l.toArray t (0, 0))

structure AS where
  m : Nat → Option Ob
  c : Nat → Nat → Option Value
  n : Nat
  wm : ∀ g, m g ≠ none → g < n
  wc : ∀ b o, c b o ≠ none → b < n ∧ m b = none

/-- All but the blocks in S is as it was. -/
structure KeepP (S : Nat → Prop) (w w' : World) : Prop where
  os : w'.os = w.os
  tape : w'.tape = w.tape
  output : w'.output = w.output
  sz : size w ≤ size w'
  heap : ∀ k, k < size w → ¬ S k → w'.heap[k]? = w.heap[k]?
section
variable {S S' : Nat → Prop} {a w w' w'' : World}
theorem KeepP.refl (S : Nat → Prop) (w : World) : KeepP S w w := ⟨rfl, rfl, rfl, Nat.le_refl _, fun _ _ _ => rfl⟩
theorem KeepP.step (h : KeepP S a w) (k : KeepP S' w w') (ht : ∀ i, S' i → S i ∨ size a ≤ i) : KeepP S a w' :=
  ⟨k.os.trans h.os, k.tape.trans h.tape, k.output.trans h.output, Nat.le_trans h.sz k.sz, fun i hi hn => (k.heap i (Nat.lt_of_lt_of_le hi h.sz) (fun hT => by
    rcases ht i hT with h1 | h1
    · exact hn h1
    · omega)).trans (h.heap i hi hn)⟩
theorem KeepP.new_ (S : Nat → Prop) (w : World) (l : List Value) (t : TypeId) : KeepP S w (new w l t) :=
  ⟨rfl, rfl, rfl, by rw [size_new]; omega, fun k hk _ => Below.heap_alloc _ _ _ hk⟩
theorem KeepP.alloc (S : Nat → Prop) (w : World) (o : Obj) : KeepP S w (w.alloc o) :=
  ⟨rfl, rfl, rfl, by simp [size], fun k hk _ => Below.heap_alloc _ _ _ hk⟩
theorem KeepP.put_ {g : Nat} (hg : S g) (l : List Value) : KeepP S w (put w g l) :=
  ⟨rfl, rfl, rfl, by rw [size_put]; omega, fun k hk hn => heap_put_ne (fun e => by subst e; exact hn hg) l⟩
theorem KeepP.drewN (S : Nat → Prop) (w : World) (n : Nat) : KeepP S w (w.drewN n) := ⟨rfl, rfl, rfl, Nat.le_refl _, fun _ _ _ => rfl⟩
end

section
variable {σ σ' : AS} {g k j : Nat} {ob : Ob} {l : List Value}
def AS.live (σ : AS) (g : Nat) : Prop := σ.m g ≠ none
theorem AS.lt {o : Ob} (h : σ.m g = some o) : g < σ.n := σ.wm g (by simp [h])
theorem AS.ltc {b o : Nat} {v : Value} (h : σ.c b o = some v) : b < σ.n := (σ.wc b o (by simp [h])).1
def AS.up (σ : AS) (j : Nat) : AS := ⟨σ.m, σ.c, σ.n + j, fun g h => by have := σ.wm g h; omega, fun b o h => by have := σ.wc b o h; exact ⟨by omega, this.2⟩⟩
def AS.new (σ : AS) (ob : Ob) : AS := ⟨fun k => if k = σ.n then some ob else σ.m k, σ.c, σ.n + 1, fun g h => by
  split at h
  · omega
  · have := σ.wm g h; omega, fun b o h => by
  have := σ.wc b o h
  refine ⟨by omega, ?_⟩
  rw [if_neg (by omega)]
  exact this.2⟩
def AS.put (σ : AS) (g : Nat) (ob : Ob) : AS := ⟨fun k => if k = g then (σ.m g).map (fun _ => ob) else σ.m k, σ.c, σ.n, fun k h => by
  split at h
  · rename_i e; subst e
    refine σ.wm _ (fun h0 => ?_)
    rw [h0] at h
    exact h rfl
  · exact σ.wm k h, fun b o h => by
  have := σ.wc b o h
  refine ⟨this.1, ?_⟩
  split
  · rename_i e; subst e; rw [this.2]; rfl
  · exact this.2⟩
/-- Block g is forgotten. -/
def AS.del (σ : AS) (g : Nat) : AS := ⟨fun k => if k = g then none else σ.m k, σ.c, σ.n, fun k h => by
  split at h
  · exact absurd rfl h
  · exact σ.wm k h, fun b o h => by
  have := σ.wc b o h
  refine ⟨this.1, ?_⟩
  split
  · rfl
  · exact this.2⟩
theorem del_c : (σ.del g).c = σ.c := rfl
theorem del_n : (σ.del g).n = σ.n := rfl
theorem del_eq : (σ.del g).m g = none := by simp [AS.del]
theorem del_ne (h : k ≠ g) : (σ.del g).m k = σ.m k := by simp [AS.del, h]
theorem up_m : (σ.up j).m = σ.m := rfl
theorem up_c : (σ.up j).c = σ.c := rfl
theorem up_n : (σ.up j).n = σ.n + j := rfl
theorem up_up {i : Nat} : (σ.up i).up j = σ.up (i + j) := by simp [AS.up, Nat.add_assoc]
theorem up_zero : σ.up 0 = σ := rfl
theorem new_c : (σ.new ob).c = σ.c := rfl
theorem new_n : (σ.new ob).n = σ.n + 1 := rfl
theorem new_eq_ : (σ.new ob).m σ.n = some ob := by simp [AS.new]
theorem new_ne (h : k ≠ σ.n) : (σ.new ob).m k = σ.m k := by simp [AS.new, h]
theorem put_c : (σ.put g ob).c = σ.c := rfl
theorem put_n : (σ.put g ob).n = σ.n := rfl
theorem put_eq : (σ.put g ob).m g = (σ.m g).map (fun _ => ob) := by simp [AS.put]
theorem put_ne (h : k ≠ g) : (σ.put g ob).m k = σ.m k := by simp [AS.put, h]

/-- What world w has to do with σ. -/
structure Sat (σ : AS) (w : World) : Prop where
  sz : size w = σ.n
  m : ∀ g ob, σ.m g = some ob → obAt w g ob
  c : ∀ b o v, σ.c b o = some v → w.cell? ⟨b, o, none⟩ = some v
/-- σ' may come after σ. -/
structure Fol (σ σ' : AS) : Prop where
  n : σ.n ≤ σ'.n
  m : ∀ g, σ'.m g ≠ none → σ.m g ≠ none ∨ σ.n ≤ g
theorem Fol.refl (σ : AS) : Fol σ σ := ⟨Nat.le_refl _, fun _ h => .inl h⟩
theorem Fol.trans {a b c : AS} (h : Fol a b) (k : Fol b c) : Fol a c :=
  ⟨Nat.le_trans h.n k.n, fun g hg => by
    rcases k.m g hg with h1 | h1
    · exact h.m g h1
    · exact .inr (Nat.le_trans h.n h1)⟩
theorem Fol.up (σ : AS) (j : Nat) : Fol σ (σ.up j) := ⟨by rw [up_n]; omega, fun _ h => .inl h⟩
theorem Fol.new (σ : AS) (ob : Ob) : Fol σ (σ.new ob) := ⟨by rw [new_n]; omega, fun g h => by
  by_cases e : g = σ.n
  · exact .inr (by omega)
  · rw [new_ne e] at h; exact .inl h⟩
theorem Fol.put (σ : AS) (g : Nat) (ob : Ob) : Fol σ (σ.put g ob) := ⟨Nat.le_refl _, fun k h => .inl (by
  by_cases e : k = g
  · subst e
    rw [put_eq] at h
    exact fun h0 => h (by rw [h0]; rfl)
  · rwa [put_ne e] at h)⟩
end

section
variable {σ : AS} {w : World}
theorem obAt_congr {w w' : World} {g : Nat} {ob : Ob} (h : w'.heap[g]? = w.heap[g]?) (ho : obAt w g ob) : obAt w' g ob := by
  cases ob with
  | cells l => simpa only [obAt, blk, h] using ho
  | other o => exact h.trans ho
  | typed t l => exact h.trans ho
theorem obAt_lt {g : Nat} {ob : Ob} (ho : obAt w g ob) : g < size w := by
  cases ob with
  | cells l => exact blk_lt ho
  | other o => exact (Array.getElem?_eq_some_iff.1 ho).1
  | typed t l => exact (Array.getElem?_eq_some_iff.1 ho).1
theorem Sat.new_ (h : Sat σ w) {o : Obj} {ob : Ob} (ho : ∀ w', w'.heap[σ.n]? = some o → obAt w' σ.n ob) : Sat (σ.new ob) (w.alloc o) := by
  have hz : w.heap.size = σ.n := h.sz
  refine ⟨by show (w.heap.push o).size = _; simp [new_n, hz], ?_, ?_⟩
  · intro g ob' hg
    by_cases e : g = σ.n
    · subst e
      rw [new_eq_] at hg
      injection hg with hg; subst hg
      refine ho _ ?_
      rw [← hz]; exact heap_alloc_new w _
    · rw [new_ne e] at hg
      exact obAt_congr (Below.heap_alloc _ _ _ (by have := σ.lt hg; omega)) (h.m g ob' hg)
  · intro b o' v hv
    rw [new_c] at hv
    rw [World.cell?_of_block (w := w) (a := ⟨b, o', none⟩) (Below.heap_alloc _ _ _ (by have := σ.ltc hv; show b < _; omega))]
    exact h.c b o' v hv
theorem Sat.new (h : Sat σ w) (l : List Value) (t : TypeId) : Sat (σ.new (.cells l)) (new w l t) :=
  h.new_ (fun _ he => blk_of he)
theorem Sat.putO (h : Sat σ w) {g : Nat} {ob0 ob1 : Ob} (hg : σ.m g = some ob0) (l : List Value) (ho : obAt (E.put w g l) g ob1) : Sat (σ.put g ob1) (E.put w g l) := by
  refine ⟨by rw [size_put]; exact h.sz, ?_, ?_⟩
  · intro k ob hk
    by_cases e : k = g
    · subst e
      rw [put_eq, hg] at hk
      injection hk with hk; subst hk
      exact ho
    · rw [put_ne e] at hk
      exact obAt_congr (heap_put_ne e l) (h.m k ob hk)
  · intro b o v hv
    rw [put_c] at hv
    have e : b ≠ g := by
      rintro rfl
      have := (σ.wc b o (by simp [hv])).2
      rw [hg] at this; cases this
    rw [cel_put_ne e]
    exact h.c b o v hv
theorem Sat.put (h : Sat σ w) {g : Nat} {l0 : List Value} (hg : σ.m g = some (.cells l0)) (l : List Value) : Sat (σ.put g (.cells l)) (put w g l) :=
  h.putO hg l (blk_put (obAt_lt (h.m g _ hg)) l)
theorem Sat.putT (h : Sat σ w) {g : Nat} {t : TypeId} {l0 : List Value} (hg : σ.m g = some (.typed t l0)) (l : List Value) : Sat (σ.put g (.typed t l)) (E.put w g l) := by
  have hh : w.heap[g]? = some (.cells l0.toArray t (0, 0)) := h.m g _ hg
  refine h.putO hg l ?_
  have hlt : g < w.heap.size := (Array.getElem?_eq_some_iff.1 hh).1
  have ht : tyOf w g = t := by simp [tyOf, hh]
  show (E.put w g l).heap[g]? = _
  simp only [E.put, Array.getElem?_setIfInBounds, if_true, ht]
  exact if_pos hlt
theorem Sat.blkT (h : Sat σ w) {g : Nat} {t : TypeId} {l : List Value} (hg : σ.m g = some (.typed t l)) : blk w g = some l := by
  have hh : w.heap[g]? = some (.cells l.toArray t (0, 0)) := h.m g _ hg
  exact blk_of hh
/-- A block is forgotten, whatever has become of it. -/
theorem Sat.del {w' : World} (h : Sat σ w) (g : Nat) (hs : size w' = size w) (hh : ∀ k, k ≠ g → w'.heap[k]? = w.heap[k]?) (hm : σ.m g ≠ none) : Sat (σ.del g) w' := by
  refine ⟨hs.trans h.sz, ?_, ?_⟩
  · intro k ob hk
    by_cases e : k = g
    · subst e; rw [del_eq] at hk; cases hk
    · rw [del_ne e] at hk
      exact obAt_congr (hh k e) (h.m k ob hk)
  · intro b o v hv
    rw [del_c] at hv
    have e : b ≠ g := by
      rintro rfl
      exact hm (σ.wc b o (by simp [hv])).2
    rw [World.cell?_of_block (w := w) (a := ⟨b, o, none⟩) (hh b e)]
    exact h.c b o v hv
theorem KeepP.obj_ {S : Nat → Prop} {w : World} {g : Nat} (hg : S g) (o : Obj) : KeepP S w (w.putObj g o) :=
  ⟨rfl, rfl, rfl, by simp [size], fun k hk hn => World.putObj_heap_other (fun e => by subst e; exact hn hg)⟩
/-- Another object is laid into a block. -/
theorem Sat.obj_ (h : Sat σ w) {g : Nat} {ob0 : Ob} (hg : σ.m g = some ob0) (o : Obj) : Sat (σ.put g (.other o)) (w.putObj g o) := by
  have hlt : g < w.heap.size := obAt_lt (h.m g _ hg)
  refine ⟨by simp only [size, World.putObj_size]; exact h.sz, ?_, ?_⟩
  · intro k ob hk
    by_cases e : k = g
    · subst e
      rw [put_eq, hg] at hk
      injection hk with hk; subst hk
      exact World.putObj_heap_same hlt
    · rw [put_ne e] at hk
      exact obAt_congr (World.putObj_heap_other e) (h.m k ob hk)
  · intro b o' v hv
    rw [put_c] at hv
    have e : b ≠ g := by
      rintro rfl
      have := (σ.wc b o' (by simp [hv])).2
      rw [hg] at this; cases this
    rw [World.cell?_of_block (w := w) (a := ⟨b, o', none⟩) (World.putObj_heap_other e)]
    exact h.c b o' v hv
theorem Sat.drewN (h : Sat σ w) (n : Nat) : Sat σ (w.drewN n) := ⟨h.sz, fun g ob hg => obAt_congr (w := w) rfl (h.m g ob hg), h.c⟩

/-- A cell that is known. -/
def AS.ld (σ : AS) (b o : Nat) : Option Value := match σ.m b with | some (.cells l) => l[o]? | some (.other _) => none | some (.typed _ l) => l[o]? | none => σ.c b o
theorem ld_m {b o : Nat} {l : List Value} (h : σ.m b = some (.cells l)) : σ.ld b o = l[o]? := by simp [AS.ld, h]
theorem ld_t {b o : Nat} {t : TypeId} {l : List Value} (h : σ.m b = some (.typed t l)) : σ.ld b o = l[o]? := by simp [AS.ld, h]
theorem ld_c {b o : Nat} {v : Value} (h : σ.c b o = some v) : σ.ld b o = some v := by
  have := (σ.wc b o (by simp [h])).2
  simp [AS.ld, this, h]
theorem Sat.ld (h : Sat σ w) {b o : Nat} {v : Value} (hv : σ.ld b o = some v) : w.cell? ⟨b, o, none⟩ = some v := by
  unfold AS.ld at hv
  split at hv
  · rename_i l hl
    rw [cel (h.m b _ hl)]; exact hv
  · cases hv
  · rename_i t l hl
    rw [cel (h.blkT hl)]; exact hv
  · exact h.c b o v hv
def ldS (σ : AS) : Value → Option Value
  | .pointer (some a) => if a.spot = none then σ.ld a.block a.off else none
  | _ => none
def ldsS (σ : AS) (b o : Nat) : Nat → Option (List Value)
  | 0 => some []
  | n + 1 => (σ.ld b o).bind fun v => (ldsS σ b (o + 1) n).map (v :: ·)
def ldNS (σ : AS) (n : Nat) : Value → Option Value
  | .pointer (some a) => if a.spot = none then (ldsS σ a.block a.off n).map fun l => .agg l.toArray else none
  | _ => none
/-- A store of all cells of a value. -/
def stS (σ : AS) (n : Nat) : Value → Value → Option AS
  | .pointer (some a), v =>
    match σ.m a.block with
    | some (.cells l) => if a.spot = none ∧ (cellsV v).length = n ∧ a.off + n ≤ l.length ∧ (cellsV v).all okCell then some (σ.put a.block (.cells (l.take a.off ++ cellsV v ++ l.drop (a.off + n)))) else none
    | some (.typed t l) => if a.spot = none ∧ (cellsV v).length = n ∧ a.off + n ≤ l.length ∧ (cellsV v).all okCell then some (σ.put a.block (.typed t (l.take a.off ++ cellsV v ++ l.drop (a.off + n)))) else none
    | _ => none
  | _, _ => none
theorem addE (a : Addr) (h : a.spot = none) (i : Nat) : a.add i = ⟨a.block, a.off + i, none⟩ := by
  unfold Addr.add
  cases a
  subst h
  split
  · rename_i h; subst h; rfl
  · rfl
theorem Sat.lds (h : Sat σ w) {a : Addr} (ha : a.spot = none) : ∀ {n i : Nat} {l : List Value}, ldsS σ a.block (a.off + i) n = some l → ldsV w a i n = some l
  | 0, i, l, hl => hl
  | n + 1, i, l, hl => by
    simp only [ldsS, Option.bind_eq_some_iff, Option.map_eq_some_iff] at hl
    obtain ⟨v, hv, r, hr, rfl⟩ := hl
    simp only [ldsV, addE a ha, h.ld hv, Option.bind_some, h.lds ha (i := i + 1) hr, Option.map_some]
theorem Sat.ldS (h : Sat σ w) {x v : Value} (hv : ldS σ x = some v) : ldV w x = some v := by
  unfold E.ldS at hv
  split at hv
  · split at hv
    · rename_i a ha
      have := h.ld hv
      rw [← this]; cases a; cases ha; rfl
    · cases hv
  · cases hv
theorem Sat.ldN (h : Sat σ w) {x v : Value} {n : Nat} (hv : ldNS σ n x = some v) : ldNV w n x = some v := by
  unfold ldNS at hv
  split at hv
  · split at hv
    · rename_i a ha
      simp only [Option.map_eq_some_iff] at hv
      obtain ⟨l, hl, rfl⟩ := hv
      simp only [ldNV, h.lds ha (i := 0) hl, Option.map_some]
    · cases hv
  · cases hv
theorem Sat.stS (h : Sat σ w) {x v : Value} {n : Nat} {σ' : AS} (hv : stS σ n x v = some σ') : ∃ w', stV w n x v = some w' ∧ Sat σ' w' ∧ KeepP σ.live w w' ∧ Fol σ σ' := by
  unfold E.stS at hv
  split at hv
  · rename_i a
    split at hv
    · rename_i l hl
      split at hv
      · rename_i hc
        injection hv with hv; subst hv
        have hb : blk w a.block = some l := h.m _ _ hl
        refine ⟨_, ?_, h.put hl _, KeepP.put_ (by unfold AS.live; rw [hl]; simp) _, Fol.put _ _ _⟩
        simp only [stV, hb, Option.bind_some, if_pos hc]
      · cases hv
    · rename_i t l hl
      split at hv
      · rename_i hc
        injection hv with hv; subst hv
        have hb : blk w a.block = some l := h.blkT hl
        refine ⟨_, ?_, h.putT hl _, KeepP.put_ (by unfold AS.live; rw [hl]; simp) _, Fol.put _ _ _⟩
        simp only [stV, hb, Option.bind_some, if_pos hc]
      · cases hv
    · cases hv
  · cases hv
end

/-- What is asked in every world that σ fits. -/
def Lf (X : World → (Value → World → Prop) → Prop) (σ : AS) (k : Value → AS → Prop) : Prop :=
  ∀ w, Sat σ w → X w fun v w' => KeepP σ.live w w' ∧ ∃ σ', Sat σ' w' ∧ Fol σ σ' ∧ k v σ'
end Go.Proofs.YtpnefcapiiemdaaGreatDoor.E

/- What each instruction asks of an abstract state, and that this is sound. Conditions: none. -/
namespace Go.Proofs.YtpnefcapiiemdaaGreatDoor.E
open Go.RowKit

/-! ### The steps of a walk, what comes behind each of them as a function -/
/-- A mark that hangs on what comes behind: simp leaves that alone. -/
@[reducible] def Dm.{u} {α : Sort u} (_ : α) : Type := Unit
def kPick (c a b : Value) (k : Value → Prop) (_ : Dm k := ()) : Prop := seqO (asB c) fun t => k (if t then a else b)
def kBin (op : BinOp) (x y : Value) (k : Value → Prop) (_ : Dm k := ()) : Prop := seqO (binV op x y) k
def kSft (op : BinOp) (x y : Value) (k : Value → Prop) (_ : Dm k := ()) : Prop := seqO (sftV op x y) k
def kEq (kd : Nat) (neg : Bool) (x y : Value) (k : Value → Prop) (_ : Dm k := ()) : Prop := seqO (eqV kd x y) fun b => k (.bool (b != neg))
def kEqi (neg : Bool) (x y : Value) (k : Value → Prop) (_ : Dm k := ()) : Prop := seqO (eqI x y) fun b => k (.bool (b != neg))
def kUn (op : UnOp) (x : Value) (k : Value → Prop) (_ : Dm k := ()) : Prop := seqO (unV op x) k
def kLd (s : AS) (x : Value) (k : Value → Prop) (_ : Dm k := ()) : Prop := seqO (ldS s x) k
def kLdN (s : AS) (n : Nat) (x : Value) (k : Value → Prop) (_ : Dm k := ()) : Prop := seqO (ldNS s n x) k
def kSt (s : AS) (n : Nat) (x y : Value) (k : AS → Prop) (_ : Dm k := ()) : Prop := seqO (stS s n x y) k
def kNew (s : AS) (l : List Value) (k : Value → AS → Prop) (_ : Dm k := ()) : Prop := k (.pointer (some ⟨s.n, 0, none⟩)) (s.new (.cells l))
/-- Blocks of such types are kept with their types: a struct of two fields whose first one points at such a struct, and what holds one. -/
def selfB (P : Program) (t : TypeId) : Bool := match P.underlying t with
  | some (.struct fs) => fs.size == 2 && (match fs[0]? with | some f => (match P.underlying f.type with | some (.pointer e) => e == t | _ => false) | none => false)
  | _ => false
def hasB (P : Program) : Nat → TypeId → Bool
  | 0, _ => false
  | n + 1, t => selfB P t || (match P.underlying t with | some (.struct fs) => fs.toList.any fun f => hasB P n f.type | _ => false)
def kNewT (s : AS) (t : TypeId) (l : List Value) (k : Value → AS → Prop) (_ : Dm k := ()) : Prop := k (.pointer (some ⟨s.n, 0, none⟩)) (s.new (.typed t l))
def kBuild (z : List Value) (ps : List (Nat × Nat × Value)) (k : Value → Prop) (_ : Dm k := ()) : Prop := seqO (lay z ps) fun l => k (.agg l.toArray)
def kBsl (s : AS) (n : Nat) (z : List Value) (ps : List (Nat × Nat × Value)) (k : Value → AS → Prop) (_ : Dm k := ()) : Prop := seqO (lay z ps) fun l => k (.slice (some ⟨s.n, 0, none⟩) n n) (s.new (.cells l))
def kNck (x : Value) (k : Value → Prop) (_ : Dm k := ()) : Prop := seqO (nckV x) k
def kFld (off : Nat) (x : Value) (k : Value → Prop) (_ : Dm k := ()) : Prop := seqO (fldV off x) k
def kGet (off : Nat) (x : Value) (k : Value → Prop) (_ : Dm k := ()) : Prop := seqO (get1V off x) k
def kGetN (off n : Nat) (x : Value) (k : Value → Prop) (_ : Dm k := ()) : Prop := seqO (getNV off n x) k
def kIdx (sz : Nat) (x i : Value) (k : Value → Prop) (_ : Dm k := ()) : Prop := seqO (idxV sz x i) k
def kIdxA (len sz : Nat) (x i : Value) (k : Value → Prop) (_ : Dm k := ()) : Prop := seqO (idxAV len sz x i) k
def kIxS (x i : Value) (k : Value → Prop) (_ : Dm k := ()) : Prop := seqO (ixSV x i) k
def kSubS (x : Value) (lo hi : Option Value) (k : Value → Prop) (_ : Dm k := ()) : Prop := seqO (subSV x lo hi) k
def kSubL (sz : Nat) (x : Value) (lo hi : Option Value) (k : Value → Prop) (_ : Dm k := ()) : Prop := seqO (subLV sz x lo hi) k
def kSubA (len sz : Nat) (x : Value) (lo hi : Option Value) (k : Value → Prop) (_ : Dm k := ()) : Prop := seqO (subAV len sz x lo hi) k
def kCvi (kd : IntKind) (x : Value) (k : Value → Prop) (_ : Dm k := ()) : Prop := seqO (cviV kd x) k
def kCvSS (x : Value) (k : Value → Prop) (_ : Dm k := ()) : Prop := seqO (cssV x) k
def kExt (i : Nat) (x : Value) (k : Value → Prop) (_ : Dm k := ()) : Prop := seqO (extV i x) k
def kLen (s : Bool) (x : Value) (k : Value → Prop) (_ : Dm k := ()) : Prop := seqO (lenV s x) k
def kMin (x y : Value) (k : Value → Prop) (_ : Dm k := ()) : Prop := seqO (min2V x y) k
def kMax (x y : Value) (k : Value → Prop) (_ : Dm k := ()) : Prop := seqO (max2V x y) k
/-- A row of bytes as a string. -/
def kCvBS (s : AS) (x : Value) (k : Value → Prop) (_ : Dm k := ()) : Prop :=
  match x with
  | .slice none _ _ => k (.string (bs []))
  | .slice (some a) n _ => a.spot = none ∧ ∃ l : List UInt8, l.length = n ∧ ldsS s a.block a.off n = some (l.map fun b => .int .u8 b.toNat) ∧ k (.string (bs l))
  | _ => False
def kMks (s : AS) (sz bytes : Nat) (z : List Value) (l c : Value) (k : Value → AS → Prop) (_ : Dm k := ()) : Prop :=
  match l, c with
  | .int _ a, .int _ b => 0 ≤ a ∧ a ≤ b ∧ b ≤ 9223372036854775807 ∧ bytes * b ≤ 281474976710656 ∧ z.length = sz ∧ 0 < sz ∧ k (.slice (some ⟨s.n, 0, none⟩) a.toNat b.toNat) (s.new (.cells (List.replicate b.toNat z).flatten))
  | _, _ => False
def kMkm (s : AS) (k : Value → AS → Prop) (_ : Dm k := ()) : Prop := k (.map (some s.n)) (s.new (.other (.map #[] 0)))
def kCall (P : Program) (f : Nat) (args : List Value) (s : AS) (k : Value → AS → Prop) (_ : Dm k := ()) : Prop := Lf (callP P f args) s k
def kYld (P : Program) (l : Nat) (args : List Value) (s : AS) (k : Value → AS → Prop) (_ : Dm k := ()) : Prop := Lf (yldP P l args) s k
def kCallv (P : Program) (f : Value) (args : List Value) (s : AS) (k : Value → AS → Prop) (_ : Dm k := ()) : Prop :=
  match f with
  | .func (.func g) first cap => okFn P g = true ∧ kCall P g (first.toList ++ args ++ cap.toList) s k
  | .func (.yield l) first cap => first = #[] ∧ cap = #[] ∧ kYld P l args s k
  | _ => False
def kApp (P : Program) (t u : TypeId) (x y : Value) (s : AS) (k : Value → AS → Prop) (_ : Dm k := ()) : Prop := Lf (appP P t u x y) s k
def kCpy (P : Program) (t u : TypeId) (x y : Value) (s : AS) (k : Value → AS → Prop) (_ : Dm k := ()) : Prop := Lf (cpyP P t u x y) s k
def kGen (P : Program) (kd : LK) (vs : List Value) (s : AS) (k : Value → AS → Prop) (_ : Dm k := ()) : Prop := Lf (genP P kd vs) s k
def kChk (s : AS) (x v : Value) (k : Prop) (_ : Dm k := ()) : Prop := ldS s x = some v ∧ k
def kChkN (s : AS) (n : Nat) (x v : Value) (k : Prop) (_ : Dm k := ()) : Prop := ldNS s n x = some v ∧ k
/-- A range over a function: what is asked of the iterator, a round being B: whatever the loop's record is. -/
def kRng (P : Program) (fv : Value) (B : List Value → AS → (AS → (AS → Prop) → Prop) → (AS → Prop) → Prop) (s : AS) (k : Value → AS → Prop) (_ : Dm B := ()) (_ : Dm k := ()) : Prop :=
  match fv with
  | .func (.func g) first cap => okFn P g = true ∧ ∀ (o o' : Obj),
      (∀ args σ k', σ.m (s.n + 1) = some (.other o) → B args σ (fun σ1 k1 => σ1.m (s.n + 1) = some (.other o) ∧ k1 (σ1.put (s.n + 1) (.other o'))) (fun σ2 => σ2.m (s.n + 1) = some (.other o') ∧ k' (.bool true) (σ2.put (s.n + 1) (.other o))) → kYld P (s.n + 1) args σ k') →
      kCall P g (first.toList ++ [.func (.yield (s.n + 1)) #[] #[]] ++ cap.toList) ((s.new (.other (.deferred (some [])))).new (.other o)) fun _ σ' => σ'.m (s.n + 1) = some (.other o) ∧ ∀ o2, k (.int .i64 s.n) (σ'.put (s.n + 1) (.other o2))
  | _ => False
/-- What is done behind a body's end: the blocks of ranges over functions are shut. -/
def kDfr (P : Program) (f : Nat) (args : List Value) (s : AS) (k : AS → Prop) : Prop := Lf (fun w kk => dfrP P f args w fun w' => kk undef w') s fun _ s' => k s'
def kFin (P : Program) : List Value → AS → (AS → Prop) → Prop
  | [], s, k => k s
  | .int _ D :: r, s, k => s.m D.toNat = some (.other (.deferred (some []))) ∧ kFin P r (s.put D.toNat (.other (.deferred none))) k
  | .func (.func f) first cap :: r, s, k => okFn P f = true ∧ kDfr P f (first.toList ++ cap.toList) s fun s => kFin P r s k
  | _, _, _ => False
def kCond (v : Value) (X Y : Prop) (_ : Dm X := ()) (_ : Dm Y := ()) : Prop := match v with | .bool true => X | .bool false => Y | _ => False

def insA (P : Program) (i : Ins) (ρ : Env) (s : AS) (k : Value → AS → Prop) : Prop :=
  match i with
  | .mov x => k (x.ev ρ) s
  | .pick c a b => kPick (c.ev ρ) (a.ev ρ) (b.ev ρ) fun v => k v s
  | .bin op x y => kBin op (x.ev ρ) (y.ev ρ) fun v => k v s
  | .sft op x y => kSft op (x.ev ρ) (y.ev ρ) fun v => k v s
  | .eq kd neg x y => kEq kd neg (x.ev ρ) (y.ev ρ) fun v => k v s
  | .eqi neg x y => kEqi neg (x.ev ρ) (y.ev ρ) fun v => k v s
  | .un op x => kUn op (x.ev ρ) fun v => k v s
  | .load x => kLd s (x.ev ρ) fun v => k v s
  | .loadN n x => kLdN s n (x.ev ρ) fun v => k v s
  | .store n x y => kSt s n (x.ev ρ) (y.ev ρ) fun s' => k undef s'
  | .alloc t z => match hasB P 4 t with | true => kNewT s t z k | false => kNew s z k
  | .box t x => match hasB P 4 t with | true => kNewT s t (cellsV (x.ev ρ)) k | false => kNew s (cellsV (x.ev ρ)) k
  | .build z ps => kBuild z (layA ρ ps) fun v => k v s
  | .bsl _ n z ps => kBsl s n z (layA ρ ps) k
  | .nck x => kNck (x.ev ρ) fun v => k v s
  | .fld off x => kFld off (x.ev ρ) fun v => k v s
  | .get1 off x => kGet off (x.ev ρ) fun v => k v s
  | .getN off n x => kGetN off n (x.ev ρ) fun v => k v s
  | .idx sz x i => kIdx sz (x.ev ρ) (i.ev ρ) fun v => k v s
  | .idxA len sz x i => kIdxA len sz (x.ev ρ) (i.ev ρ) fun v => k v s
  | .ixS x i => kIxS (x.ev ρ) (i.ev ρ) fun v => k v s
  | .subS x lo hi => kSubS (x.ev ρ) (lo.map (Arg.ev ρ)) (hi.map (Arg.ev ρ)) fun v => k v s
  | .subL sz x lo hi => kSubL sz (x.ev ρ) (lo.map (Arg.ev ρ)) (hi.map (Arg.ev ρ)) fun v => k v s
  | .subA len sz x lo hi => kSubA len sz (x.ev ρ) (lo.map (Arg.ev ρ)) (hi.map (Arg.ev ρ)) fun v => k v s
  | .cvi kd x => kCvi kd (x.ev ρ) fun v => k v s
  | .cvBS x => kCvBS s (x.ev ρ) fun v => k v s
  | .cvSS x => kCvSS (x.ev ρ) fun v => k v s
  | .mkf f a b => k (.func (.func f) (argsV ρ a).toArray (argsV ρ b).toArray) s
  | .mks _ sz bytes z l c => kMks s sz bytes z (l.ev ρ) (c.ev ρ) k
  | .mkm => kMkm s k
  | .ext i x => kExt i (x.ev ρ) fun v => k v s
  | .len b x => kLen b (x.ev ρ) fun v => k v s
  | .min2 x y => kMin (x.ev ρ) (y.ev ρ) fun v => k v s
  | .max2 x y => kMax (x.ev ρ) (y.ev ρ) fun v => k v s
  | .call f as => kCall P f (argsV ρ as) s k
  | .callv x as => kCallv P (x.ev ρ) (argsV ρ as) s k
  | .app t u x y => kApp P t u (x.ev ρ) (y.ev ρ) s k
  | .cpy t u x y => kCpy P t u (x.ev ρ) (y.ev ρ) s k
  | .gen kd xs => kGen P kd (argsV ρ xs) s k
  | .chk x d => kChk s (x.ev ρ) (ρ d) (k undef s)
  | .chkN n x d => kChkN s n (x.ev ρ) (ρ d) (k undef s)
  | .bad => False

/-- What comes out of a world that fits. -/
def Out (σ : AS) (w : World) (k : Value → AS → Prop) : Value → World → Prop := fun v w' => KeepP σ.live w w' ∧ ∃ σ', Sat σ' w' ∧ Fol σ σ' ∧ k v σ'
section
variable {P : Program} {ρ : Env} {σ : AS} {w : World} {k : Value → AS → Prop}
theorem Out.same (h : Sat σ w) {v : Value} (hk : k v σ) : Out σ w k v w := ⟨KeepP.refl _ _, σ, h, Fol.refl _, hk⟩
theorem Out.new (h : Sat σ w) {v : Value} {l : List Value} (t : TypeId) (hk : k v (σ.new (.cells l))) : Out σ w k v (new w l t) := ⟨KeepP.new_ _ _ _ _, _, h.new l t, Fol.new _ _, hk⟩
theorem Out.newT (h : Sat σ w) {v : Value} {l : List Value} (t : TypeId) (hk : k v (σ.new (.typed t l))) : Out σ w k v (E.new w l t) := ⟨KeepP.new_ _ _ _ _, _, h.new_ (o := .cells l.toArray t) (ob := .typed t l) (fun _ he => he), Fol.new _ _, hk⟩
theorem pure_ok {o : Option Value} {k' : Value → Prop} (h : Sat σ w) (hk : seqO o k') (hh : ∀ v, k' v → k v σ) : seqO o fun v => Out σ w k v w :=
  seqO_mono (fun v hv => Out.same h (hh v hv)) hk

theorem insA_ok {i : Ins} (h : insA P i ρ σ k) (hs : Sat σ w) : vcI P i ρ w (Out σ w k) := by
  cases i
  case mov x => exact Out.same hs h
  case mkf => exact Out.same hs h
  case pick c a b => exact seqO_mono (k := fun t : Bool => k (if t then a.ev ρ else b.ev ρ) σ) (k' := fun t => Out σ w k (if t then a.ev ρ else b.ev ρ) w) (fun v hv => Out.same hs hv) h
  case eq kd neg x y => exact seqO_mono (fun v hv => Out.same hs hv) (k := fun b => k (.bool (b != neg)) σ) h
  case eqi neg x y => exact seqO_mono (fun v hv => Out.same hs hv) (k := fun b => k (.bool (b != neg)) σ) h
  case load x =>
    obtain ⟨v, hv, hk⟩ := seqO_ex (show seqO (ldS σ (x.ev ρ)) fun v => k v σ from h)
    show seqO (ldV w (x.ev ρ)) _
    rw [hs.ldS hv]
    exact Out.same hs hk
  case loadN n x =>
    obtain ⟨v, hv, hk⟩ := seqO_ex (show seqO (ldNS σ n (x.ev ρ)) fun v => k v σ from h)
    show seqO (ldNV w n (x.ev ρ)) _
    rw [hs.ldN hv]
    exact Out.same hs hk
  case store n x y =>
    obtain ⟨σ', hv, hk⟩ := seqO_ex (show seqO (stS σ n (x.ev ρ) (y.ev ρ)) fun s' => k undef s' from h)
    obtain ⟨w', h1, h2, h3, h4⟩ := hs.stS hv
    show seqO (stV w n (x.ev ρ) (y.ev ρ)) _
    rw [h1]
    exact ⟨h3, σ', h2, h4, hk⟩
  case alloc t z =>
    show Out σ w k (.pointer (some ⟨size w, 0, none⟩)) (new w z t)
    rw [hs.sz]
    simp only [insA] at h
    split at h
    · exact Out.newT hs t h
    · exact Out.new hs t h
  case box t x =>
    show Out σ w k (.pointer (some ⟨size w, 0, none⟩)) (new w (cellsV (x.ev ρ)) t)
    rw [hs.sz]
    simp only [insA] at h
    split at h
    · exact Out.newT hs t h
    · exact Out.new hs t h
  case build z ps => exact seqO_mono (k := fun l : List Value => k (.agg l.toArray) σ) (k' := fun l => Out σ w k (.agg l.toArray) w) (fun v hv => Out.same hs hv) h
  case bsl e n z ps =>
    obtain ⟨l, hl, hk⟩ := seqO_ex (show seqO (lay z (layA ρ ps)) fun l => k (.slice (some ⟨σ.n, 0, none⟩) n n) (σ.new (.cells l)) from h)
    show seqO (lay z (layA ρ ps)) _
    rw [hl]
    show Out σ w k (.slice (some ⟨size w, 0, none⟩) n n) (new w l e)
    rw [hs.sz]
    exact Out.new hs e hk
  case cvBS x =>
    replace h : kCvBS σ (x.ev ρ) (fun v => k v σ) := h
    show cvBSP w (x.ev ρ) fun v => Out σ w k v w
    unfold kCvBS at h
    split at h
    · rename_i hx; rw [hx]; exact Out.same hs h
    · rename_i a n c hx
      obtain ⟨ha, l, h1, h2, h3⟩ := h
      rw [hx]
      exact ⟨l, h1, hs.lds ha (i := 0) h2, Out.same hs h3⟩
    · exact h.elim
  case mks e sz bytes z l c =>
    replace h : kMks σ sz bytes z (l.ev ρ) (c.ev ρ) k := h
    show mksP e sz bytes z (l.ev ρ) (c.ev ρ) w _
    unfold kMks at h
    split at h
    · rename_i hx hy
      obtain ⟨h1, h2, h3, h4, h5, h6, h7⟩ := h
      rw [hx, hy]
      unfold mksP
      rw [hs.sz]
      exact ⟨h1, h2, h3, h4, h5, h6, Out.new hs e h7⟩
    · exact h.elim
  case mkm =>
    show Out σ w k (.map (some (size w))) (w.alloc (.map #[] 0))
    rw [hs.sz]
    exact ⟨KeepP.alloc _ _ _, _, hs.new_ (ob := .other (.map #[] 0)) (fun _ he => he), Fol.new _ _, h⟩
  case call f as => exact h w hs
  case callv x as =>
    replace h : kCallv P (x.ev ρ) (argsV ρ as) σ k := h
    show callvP P (x.ev ρ) (argsV ρ as) w _
    unfold kCallv at h
    split at h
    · rename_i hx
      rw [hx]
      exact ⟨h.1, h.2 w hs⟩
    · rename_i hx
      rw [hx]
      exact ⟨h.1, h.2.1, h.2.2 w hs⟩
    · exact h.elim
  case app t u x y => exact h w hs
  case cpy t u x y => exact h w hs
  case gen kd xs => exact h w hs
  case chk x d => exact ⟨hs.ldS h.1, Out.same hs h.2⟩
  case chkN n x d => exact ⟨hs.ldN h.1, Out.same hs h.2⟩
  case bad => exact h.elim
  all_goals exact pure_ok hs h (fun _ h => h)

theorem insA_congr {ρ' : Env} {i : Ins} (h : ∀ t, t ∈ insR i → ρ t = ρ' t) : insA P i ρ σ k = insA P i ρ' σ k := by
  cases i <;> simp only [insR, List.mem_append, List.mem_cons] at h <;> simp only [insA]
  case pick a b c => rw [arg_congr (a := a) fun t ht => h t (.inl (.inl ht)), arg_congr (a := b) fun t ht => h t (.inl (.inr ht)), arg_congr (a := c) fun t ht => h t (.inr ht)]
  case build => rw [lays_congr h]
  case bsl => rw [lays_congr h]
  case mkf a b => rw [args_congr (l := a) fun t ht => h t (.inl ht), args_congr (l := b) fun t ht => h t (.inr ht)]
  case call => rw [args_congr h]
  case gen => rw [args_congr h]
  case callv x a => rw [arg_congr (a := x) fun t ht => h t (.inl ht), args_congr (l := a) fun t ht => h t (.inr ht)]
  case subS x a b => rw [arg_congr (a := x) fun t ht => h t (.inl ht), opt_congr (a := a) fun t ht => h t (.inr (.inl ht)), opt_congr (a := b) fun t ht => h t (.inr (.inr ht))]
  case subL x a b => rw [arg_congr (a := x) fun t ht => h t (.inl ht), opt_congr (a := a) fun t ht => h t (.inr (.inl ht)), opt_congr (a := b) fun t ht => h t (.inr (.inr ht))]
  case subA x a b => rw [arg_congr (a := x) fun t ht => h t (.inl ht), opt_congr (a := a) fun t ht => h t (.inr (.inl ht)), opt_congr (a := b) fun t ht => h t (.inr (.inr ht))]
  case chk x d => rw [arg_congr (a := x) fun t ht => h t (.inr ht), h d (.inl rfl)]
  case chkN n x d => rw [arg_congr (a := x) fun t ht => h t (.inr ht), h d (.inl rfl)]
  all_goals first
    | rfl
    | (rename_i x; rw [arg_congr (a := x) h]; done)
    | (rename_i x y; rw [arg_congr (a := x) fun t ht => h t (.inl ht), arg_congr (a := y) fun t ht => h t (.inr ht)]; done)
end
end Go.Proofs.YtpnefcapiiemdaaGreatDoor.E

/- A body as a walk over abstract states, its slots as values at hand, dead slots left out; that this is sound. Conditions: none. -/
namespace Go.Proofs.YtpnefcapiiemdaaGreatDoor.E
open Go.RowKit

/-! ### Sets of slots as numbers -/
def bits (l : List Nat) : Nat := l.foldr (fun i m => (1 <<< i) ||| m) 0
theorem one_bit (i j : Nat) : (1 <<< i).testBit j = decide (i = j) := by
  rw [Nat.one_shiftLeft, Nat.testBit_two_pow]
theorem bits_mem (l : List Nat) (i : Nat) : (bits l).testBit i = true ↔ i ∈ l := by
  induction l with
  | nil => simp [bits]
  | cons a r ih =>
    have : bits (a :: r) = (1 <<< a) ||| bits r := rfl
    rw [this, Nat.testBit_or, one_bit, Bool.or_eq_true, ih, decide_eq_true_eq, List.mem_cons]
    constructor
    · rintro (h | h)
      · exact .inl h.symm
      · exact .inr h
    · rintro (h | h)
      · exact .inl h.symm
      · exact .inr h
def slots (m : Nat) : List Nat := (List.range (m.log2 + 1)).filter fun i => m.testBit i
theorem slots_mem (m i : Nat) : i ∈ slots m ↔ m.testBit i = true := by
  simp only [slots, List.mem_filter, List.mem_range]
  constructor
  · exact fun h => h.2
  · intro h
    refine ⟨?_, h⟩
    have h1 := Nat.ge_two_pow_of_testBit h
    have h2 : m ≠ 0 := by
      rintro rfl
      simp at h
    have := (Nat.le_log2 h2).2 h1
    omega
def wrM (s : S) : Nat := bits (wrS s)
/-- m without slot d. -/
def cut1 (m : Nat) : Option Nat → Nat
  | some d => m ^^^ (m &&& (1 <<< d))
  | none => m
theorem cut1_bit {m i : Nat} {d : Option Nat} (h : m.testBit i = true) (hd : d ≠ some i) : (cut1 m d).testBit i = true := by
  cases d with
  | none => exact h
  | some d =>
    have hn : ¬ d = i := fun e => hd (by rw [e])
    unfold cut1
    rw [Nat.testBit_xor, Nat.testBit_and, one_bit]
    simp [h, hn]

/-! ### Operations under one guard together -/
inductive G where
  | one (i : St)
  | grp (g : Nat) (want : Bool) (l : List St)
def bare (i : St) : St := ⟨i.dst, none, i.ins⟩
def under (g : Nat) (want : Bool) (i : St) : St := ⟨i.dst, some (g, want), i.ins⟩
def grpL : List St → List G
  | [] => []
  | i :: r =>
    match i.grd with
    | none => .one i :: grpL r
    | some (g, w) =>
      match grpL r with
      | .grp g' w' l :: r' => if g = g' ∧ w = w' ∧ i.dst ≠ some g then .grp g w (bare i :: l) :: r' else .grp g w [bare i] :: .grp g' w' l :: r'
      | r' => .grp g w [bare i] :: r'
def unG : List G → List St
  | [] => []
  | .one i :: r => i :: unG r
  | .grp g w l :: r => l.map (under g w) ++ unG r
theorem unG_grpL : ∀ l : List St, unG (grpL l) = l
  | [] => rfl
  | i :: r => by
    have ih := unG_grpL r
    unfold grpL
    split
    · simp [unG, ih]
    · rename_i g w hg
      have hb : under g w (bare i) = i := by cases i; cases hg; rfl
      split
      · rename_i g' w' l r' hr
        rw [hr] at ih
        split
        · rename_i hc
          obtain ⟨rfl, rfl, _⟩ := hc
          simp only [unG, List.map_cons, List.cons_append, hb] at ih ⊢
          rw [ih]
        · simp only [unG, List.map_cons, List.map_nil, List.cons_append, List.nil_append, hb] at ih ⊢
          rw [ih]
      · simp only [unG, List.map_cons, List.map_nil, List.cons_append, List.nil_append, hb, ih]

/-! ### Which slots are still read -/
def liveL : List St → Nat → Nat
  | [], out => out
  | i :: r, out => cut1 (liveL r out) i.dst ||| bits (stR i)
def liveG : List G → Nat → Nat
  | [], out => out
  | .one i :: r, out => cut1 (liveG r out) i.dst ||| bits (stR i)
  | .grp g _ l :: r, out => (1 <<< g) ||| liveL l (liveG r out)
def liveD : D → Nat → Nat
  | .ops l, out => liveG (grpL l) out
  | .alt l a b, out => liveG (grpL l) (liveD a out ||| liveD b out)
def live : S → Nat → (Nat → Nat) → Nat → Nat
  | .skip, out, _, _ => out
  | .ops l, out, _, _ => liveG (grpL l) out
  | .draw d, out, _, _ => liveD d out
  | .seq a b, out, ex, rt => live a (live b out ex rt) ex rt ||| (live b out ex rt ^^^ (live b out ex rt &&& wrM a))
  | .cond c a b, out, ex, rt => bits (argR c) ||| (live a out ex rt ||| live b out ex rt)
  | .blk id a, out, ex, rt => live a out (fun i => if i = id then out else ex i) rt
  | .loop a, _, ex, rt => live a 0 ex rt
  | .exit id, _, ex, _ => ex id
  | .ret, _, _, rt => rt
  | .bad, _, _, _ => 0
  | .rng N x _ _ _ a b, out, _, _ => bits (argR x) ||| ((1 <<< N) ||| (out ||| live a (live b 0 (fun _ => 0) 0) (fun _ => 0) 0))

abbrev Kont := Env → AS → Prop
def gv (xs : List Value) (i : Nat) : Value := xs.getD i undef
def setL (ρ : Env) (xs : List Value) : List Nat → Nat → Env
  | [], _ => ρ
  | l :: L, k => up (setL ρ xs L (k + 1)) l (gv xs k)
theorem setL_off (ρ : Env) (xs : List Value) : ∀ (L : List Nat) (k i : Nat), i ∉ L → setL ρ xs L k i = ρ i
  | [], _, _, _ => rfl
  | l :: L, k, i, h => by
    simp only [List.mem_cons, not_or] at h
    simp only [setL, up, if_neg h.1]
    exact setL_off ρ xs L (k + 1) i h.2
theorem setL_on (ρ ρ' : Env) : ∀ (L : List Nat) (pre : List Value) (i : Nat), i ∈ L → setL ρ (pre ++ L.map ρ') L pre.length i = ρ' i
  | [], _, _, h => by cases h
  | l :: L, pre, i, h => by
    simp only [setL, up]
    by_cases e : i = l
    · subst e
      simp [gv]
    · rw [if_neg e]
      have := setL_on ρ ρ' L (pre ++ [ρ' l]) i (by simpa [e] using h)
      simpa using this
theorem setL_get (ρ ρ' : Env) (L : List Nat) (i : Nat) : setL ρ (L.map ρ') L 0 i = if i ∈ L then ρ' i else ρ i := by
  split
  · rename_i h; simpa using setL_on ρ ρ' L [] i h
  · rename_i h; exact setL_off _ _ _ _ _ h

def kJoin (J : List Value → AS → Prop) (body : (List Value → AS → Prop) → Prop) : Prop := body J
def kLoop (body : (List Value → AS → Prop) → List Value → AS → Prop) (xs : List Value) (s : AS) (_ : Dm body := ()) : Prop :=
  ∃ I : Nat → List Value → AS → Prop, (∃ n, I n xs s) ∧ ∀ n xs s, I n xs s → body (fun xs' s' => ∃ n', n' < n ∧ I n' xs' s') xs s
def kAlt (X Y : Prop) : Prop := X ∧ Y

def dsts (l : List St) : List Nat := l.flatMap dstL
def denL (P : Program) : List St → Env → AS → Kont → Prop
  | [], ρ, s, K => K ρ s
  | i :: r, ρ, s, K => insA P i.ins ρ s fun v s' => denL P r (upd ρ i.dst v) s' K
/-- A piece that is carried out just if a test says so; what it leaves are values. -/
def kGrd (v : Value) (want : Bool) (X : (List Value → AS → Prop) → Prop) (us : List Value) (s : AS) (k : List Value → AS → Prop) (_ : Dm X := ()) (_ : Dm k := ()) : Prop := match v with | .bool b => if b = want then X k else k us s | _ => k us s
def denG (P : Program) : List G → Nat → Env → AS → Kont → Prop
  | [], _, ρ, s, K => K ρ s
  | .one i :: r, lv, ρ, s, K => match i.grd with | none => insA P i.ins ρ s fun v s' => denG P r lv (upd ρ i.dst v) s' K | some _ => False
  | .grp g want l :: r, lv, ρ, s, K =>
    Bool.rec (motive := fun _ => Prop) False
      (kGrd (ρ g) want (fun k => denL P l ρ s fun ρ' s' => k ((slots (bits (dsts l) &&& liveG r lv)).map ρ') s')
        ((slots (bits (dsts l) &&& liveG r lv)).map fun _ => undef) s
        (fun xs s' => denG P r lv (setL ρ xs (slots (bits (dsts l) &&& liveG r lv)) 0) s' K))
      (l.all (fun i => i.grd.isNone && i.dst != some g))
def denD (P : Program) : D → Nat → Env → AS → Kont → Prop
  | .ops l, lv, ρ, s, K => denG P (grpL l) lv ρ s K
  | .alt l a b, lv, ρ, s, K => denG P (grpL l) (liveD a lv ||| liveD b lv) ρ s fun ρ s => kAlt (denD P a lv ρ s K) (denD P b lv ρ s K)
def straight : S → Bool
  | .ops _ | .draw (.ops _) | .skip => true
  | _ => false
def small : S → Bool
  | .skip | .ret | .exit _ => true
  | _ => false
def den (P : Program) : S → Nat → (Nat → Nat) → Nat → Env → AS → Kont → (Nat → Kont) → Kont → Prop
  | .skip, _, _, _, ρ, s, K, _, _ => K ρ s
  | .ops l, lv, _, _, ρ, s, K, _, _ => denG P (grpL l) lv ρ s K
  | .draw d, lv, _, _, ρ, s, K, _, _ => denD P d lv ρ s K
  | .seq a b, lv, ex, rt, ρ, s, K, E, R =>
    Bool.rec (motive := fun _ => Prop)
      (kJoin (fun xs s' => den P b lv ex rt (setL ρ xs (slots (wrM a &&& live b lv ex rt)) 0) s' K E R) fun J =>
        den P a (live b lv ex rt) ex rt ρ s (fun ρ' s' => J ((slots (wrM a &&& live b lv ex rt)).map ρ') s') E R)
      (den P a (live b lv ex rt) ex rt ρ s (fun ρ' s' => den P b lv ex rt ρ' s' K E R) E R)
      (straight a || small b)
  | .cond c a b, lv, ex, rt, ρ, s, K, E, R => kCond (c.ev ρ) (den P a lv ex rt ρ s K E R) (den P b lv ex rt ρ s K E R)
  | .blk id a, lv, ex, rt, ρ, s, K, E, R => den P a lv (fun i => if i = id then lv else ex i) rt ρ s K (fun i => if i = id then K else E i) R
  | .loop a, _, ex, rt, ρ, s, _, E, R =>
    if live a (live a 0 ex rt) ex rt ||| live a 0 ex rt = live a 0 ex rt then
      kLoop (fun again xs s =>
        den P a (live a 0 ex rt) ex rt (setL ρ xs (slots (wrM a &&& live a 0 ex rt)) 0) s (fun ρ' s' => again ((slots (wrM a &&& live a 0 ex rt)).map ρ') s') E R) ((slots (wrM a &&& live a 0 ex rt)).map ρ) s
    else False
  | .exit id, _, _, _, ρ, s, _, E, _ => E id ρ s
  | .ret, _, _, _, ρ, s, _, _, R => R ρ s
  | .bad, _, _, _, _, _, _, _, _ => False
  | .rng N x ps _ _ a b, _, _, _, ρ, s, K, _, _ =>
    if decide ps.toList.Nodup then
      kRng P (x.ev ρ) (fun xs s' bg k => xs.length = ps.size ∧ den P a (live b 0 (fun _ => 0) 0) (fun _ => 0) 0 (up (setL ρ xs ps.toList 0) N undef) s'
          (fun ρ' s'' => bg s'' fun s3 => den P b 0 (fun _ => 0) 0 ρ' s3 (fun _ s4 => k s4) (fun _ _ _ => False) (fun _ _ => False)) (fun _ _ _ => False) (fun _ _ => False)) s
        (fun m s' => K (up ρ N (consM m (ρ N))) s')
    else False

/-! ### Soundness -/
def Agr (m : Nat) (ρ ρ' : Env) : Prop := ∀ i, m.testBit i = true → ρ i = ρ' i
structure Stt (σ0 : AS) (w0 : World) (σ : AS) (w : World) : Prop where
  sat : Sat σ w
  keep : KeepP σ0.live w0 w
  fol : Fol σ0 σ
def qEnd (K : Kont) (E : Nat → Kont) (R : Kont) : Exit → Env → AS → Prop := fun e ρ s => match e with | .normal => K ρ s | .exit i => E i ρ s | .ret => R ρ s | _ => False
def mEnd (lv : Nat) (ex : Nat → Nat) (rt : Nat) : Exit → Nat := fun e => match e with | .normal => lv | .exit i => ex i | _ => rt
def QQ (σ0 : AS) (w0 : World) (lv : Nat) (ex : Nat → Nat) (rt : Nat) (K : Kont) (E : Nat → Kont) (R : Kont) : Post := fun e ρa w => ∃ ρ σ, Agr (mEnd lv ex rt e) ρ ρa ∧ Stt σ0 w0 σ w ∧ qEnd K E R e ρ σ
section
variable {P : Program} {σ0 : AS} {w0 : World} {ρ ρa : Env} {σ : AS} {w : World} {lv rt : Nat} {ex : Nat → Nat} {K : Kont} {X : Nat → Kont} {R : Kont}
theorem Agr.orL {a b : Nat} {ρ ρ' : Env} (h : Agr (a ||| b) ρ ρ') : Agr a ρ ρ' := fun i hi => h i (by simp [Nat.testBit_or, hi])
theorem Agr.orR {a b : Nat} {ρ ρ' : Env} (h : Agr (a ||| b) ρ ρ') : Agr b ρ ρ' := fun i hi => h i (by simp [Nat.testBit_or, hi])
theorem Agr.mk_or {a b : Nat} {ρ ρ' : Env} (h : Agr a ρ ρ') (k : Agr b ρ ρ') : Agr (a ||| b) ρ ρ' := fun i hi => by
  simp only [Nat.testBit_or, Bool.or_eq_true] at hi
  rcases hi with hi | hi
  · exact h i hi
  · exact k i hi
theorem Agr.upd_ {m : Nat} {d : Option Nat} {ρ ρ' : Env} (h : Agr (cut1 m d) ρ ρ') (v : Value) : Agr m (upd ρ d v) (upd ρ' d v) := fun i hi => by
  cases d with
  | none => exact h i hi
  | some d =>
    simp only [upd, up]
    split
    · rfl
    · rename_i hn
      exact h i (cut1_bit hi (fun e => hn (by injection e with e; exact e.symm)))
theorem Agr.of_bits {l : List Nat} {ρ ρ' : Env} (h : Agr (bits l) ρ ρ') : ∀ t, t ∈ l → ρ t = ρ' t := fun t ht => h t ((bits_mem l t).2 ht)
/-- Slots that are handed on one by one. -/
theorem Agr.handed {m : Nat} {W : List Nat} {ρ ρ1 ρ2 : Env} (h : ∀ i, i ∈ W → m.testBit i = true → ρ1 i = ρ2 i) (ho : ∀ i, i ∉ W → m.testBit i = true → ρ i = ρ2 i) : Agr m (setL ρ ((slots (bits W &&& m)).map ρ1) (slots (bits W &&& m)) 0) ρ2 := by
  intro i hi
  rw [setL_get]
  split
  · rename_i hm
    rw [slots_mem, Nat.testBit_and, Bool.and_eq_true] at hm
    exact h i ((bits_mem _ _).1 hm.1) hi
  · rename_i hn
    refine ho i (fun hw => hn ?_) hi
    rw [slots_mem, Nat.testBit_and, hi, Bool.and_true]
    exact (bits_mem _ _).2 hw
theorem Stt.out {k : Value → AS → Prop} {v : Value} {w' : World} (h : Stt σ0 w0 σ w) (hz : size w0 = σ0.n) (ho : Out σ w k v w') : ∃ σ', Stt σ0 w0 σ' w' ∧ k v σ' := by
  obtain ⟨h1, σ', h2, h3, h4⟩ := ho
  exact ⟨σ', ⟨h2, h.keep.step h1 (fun i hi => by
    rcases h.fol.m i hi with h | h
    · exact .inl h
    · exact .inr (by omega)), h.fol.trans h3⟩, h4⟩

theorem denL_ok (hz : size w0 = σ0.n) {Q : Post} : ∀ {l : List St} {lv : Nat} {ρ ρa : Env} {σ : AS} {w : World}, denL P l ρ σ K → (∀ i ∈ l, i.grd = none) → Agr (liveL l lv) ρ ρa → Stt σ0 w0 σ w →
    (∀ ρ ρa σ w, Agr lv ρ ρa → Stt σ0 w0 σ w → K ρ σ → Q .normal ρa w) → vcL P l Q ρa w
  | [], lv, ρ, ρa, σ, w, h, _, ha, hs, hq => hq _ _ _ _ ha hs h
  | i :: r, lv, ρ, ρa, σ, w, h, hg, ha, hs, hq => by
    have hr : ∀ t, t ∈ insR i.ins → ρ t = ρa t := fun t ht => ha.orR.of_bits t (by simp [stR, ht])
    replace h : insA P i.ins ρ σ fun v s' => denL P r (upd ρ i.dst v) s' K := h
    rw [insA_congr hr] at h
    simp only [vcL, hg i (by simp)]
    refine vcI_mono ?_ (insA_ok h hs.sat)
    intro v w' ho
    obtain ⟨σ', hs', hv⟩ := hs.out hz ho
    exact denL_ok hz hv (fun j hj => hg j (by simp [hj])) (ha.orL.upd_ _) hs' hq
/-- Operations under a guard: either all of them are carried out, or none. -/
theorem under_run {g : Nat} {want : Bool} {Q : Post} : ∀ {l : List St} {ρ : Env} {w : World}, (∀ i ∈ l, i.grd = none ∧ i.dst ≠ some g) → ρ g = .bool want → vcL P l Q ρ w → vcL P (l.map (under g want)) Q ρ w
  | [], _, _, _, _, h => h
  | i :: r, ρ, w, hl, hg, h => by
    have h1 := hl i (by simp)
    simp only [vcL, h1.1] at h
    simp only [List.map_cons, vcL, under, grdP, hg, if_true]
    refine vcI_mono ?_ h
    intro v w' h
    refine under_run (fun j hj => hl j (by simp [hj])) ?_ h
    cases hd : i.dst with
    | none => exact hg
    | some d =>
      have : ¬ g = d := fun e => h1.2 (by rw [hd, e])
      simp only [upd, up, if_neg this]; exact hg
theorem under_skip {g : Nat} {want : Bool} {Q : Post} : ∀ {l : List St} {ρ : Env} {w : World}, (∀ i ∈ l, i.grd = none ∧ i.dst ≠ some g) → (∀ b, ρ g = .bool b → b ≠ want) → (∀ ρ', (∀ i, ρ' i = if i ∈ dsts l then undef else ρ i) → Q .normal ρ' w) → vcL P (l.map (under g want)) Q ρ w
  | [], ρ, w, _, _, hq => hq ρ (fun i => by simp [dsts])
  | i :: r, ρ, w, hl, hg, hq => by
    have h1 := hl i (by simp)
    have next : vcL P (r.map (under g want)) Q (upd ρ i.dst undef) w := by
      refine under_skip (fun j hj => hl j (by simp [hj])) ?_ ?_
      · cases hd : i.dst with
        | none => exact hg
        | some d =>
          have : ¬ g = d := fun e => h1.2 (by rw [hd, e])
          simp only [upd, up, if_neg this]; exact hg
      · intro ρ' hρ
        refine hq ρ' (fun j => ?_)
        rw [hρ j]
        cases hd : i.dst with
        | none => simp [dsts, dstL, hd, upd]
        | some d =>
          simp only [dsts, List.flatMap_cons, dstL, hd, List.mem_append, List.mem_singleton, upd, up]
          by_cases e : j = d <;> by_cases e2 : j ∈ r.flatMap dstL <;> simp [e, e2]
    simp only [List.map_cons, vcL, under, grdP]
    split
    · rename_i b hb
      rw [if_neg (hg b hb)]
      exact next
    · exact next
theorem wrL_under (g : Nat) (want : Bool) : ∀ l : List St, wrL (l.map (under g want)) = dsts l
  | [] => rfl
  | i :: r => by
    have := wrL_under g want r
    simp only [List.map_cons, wrL, this, dsts, List.flatMap_cons]
    rfl
theorem wrL_dsts : ∀ l : List St, wrL l = dsts l
  | [] => rfl
  | i :: r => by
    have := wrL_dsts r
    simp only [wrL, this, dsts, List.flatMap_cons]
    rfl

theorem denG_ok (hz : size w0 = σ0.n) {Q : Post} : ∀ {l : List G} {lv : Nat} {ρ ρa : Env} {σ : AS} {w : World}, denG P l lv ρ σ K → Agr (liveG l lv) ρ ρa → Stt σ0 w0 σ w →
    (∀ ρ ρa σ w, Agr lv ρ ρa → Stt σ0 w0 σ w → K ρ σ → Q .normal ρa w) → vcL P (unG l) Q ρa w
  | [], lv, ρ, ρa, σ, w, h, ha, hs, hq => hq _ _ _ _ ha hs h
  | .one i :: r, lv, ρ, ρa, σ, w, h, ha, hs, hq => by
    simp only [denG] at h
    split at h
    · rename_i hg
      have hr : ∀ t, t ∈ insR i.ins → ρ t = ρa t := fun t ht => ha.orR.of_bits t (by simp [stR, ht])
      rw [insA_congr hr] at h
      simp only [unG, vcL, hg]
      refine vcI_mono ?_ (insA_ok h hs.sat)
      intro v w' ho
      obtain ⟨σ', hs', hv⟩ := hs.out hz ho
      exact denG_ok hz hv (ha.orL.upd_ _) hs' hq
    · exact h.elim
  | .grp g want l :: r, lv, ρ, ρa, σ, w, h, ha, hs, hq => by
    simp only [denG] at h
    cases hall : l.all (fun i => i.grd.isNone && i.dst != some g) with
    | false => rw [hall] at h; exact h.elim
    | true =>
      rw [hall] at h
      replace ha : Agr ((1 <<< g) ||| liveL l (liveG r lv)) ρ ρa := ha
      have hl : ∀ i ∈ l, i.grd = none ∧ i.dst ≠ some g := fun i hi => by
        have := List.all_eq_true.1 hall i hi
        simpa using this
      have hgv : ρ g = ρa g := ha.orL g (by rw [one_bit]; simp)
      simp only [unG]
      rw [vcL_append]
      have cont : ∀ (ρ1 ρ2 : Env) (σ' : AS) (w' : World), (∀ i, i ∈ dsts l → (liveG r lv).testBit i = true → ρ1 i = ρ2 i) → (∀ i, i ∉ dsts l → (liveG r lv).testBit i = true → ρ i = ρ2 i) → Stt σ0 w0 σ' w' →
          denG P r lv (setL ρ ((slots (bits (dsts l) &&& liveG r lv)).map ρ1) (slots (bits (dsts l) &&& liveG r lv)) 0) σ' K → vcL P (unG r) Q ρ2 w' :=
        fun ρ1 ρ2 σ' w' h1 h2 h3 h4 => denG_ok hz h4 (Agr.handed h1 h2) h3 hq
      have keep : ∀ i, i ∉ dsts l → (liveG r lv).testBit i = true → ρ i = ρa i := by
        have key : ∀ (l : List St) (m : Nat) (i : Nat), i ∉ dsts l → m.testBit i = true → (liveL l m).testBit i = true := by
          intro l
          induction l with
          | nil => intro m i _ h; exact h
          | cons j l ih =>
            intro m i hn h
            simp only [dsts, List.flatMap_cons, List.mem_append, not_or] at hn
            simp only [liveL, Nat.testBit_or, Bool.or_eq_true]
            refine .inl (cut1_bit (ih m i hn.2 h) (fun e => hn.1 ?_))
            simp [dstL, e]
        exact fun i hn hi => ha.orR i (key l _ i hn hi)
      unfold kGrd at h
      split at h
      · rename_i b hb
        split at h
        · rename_i hbw
          subst hbw
          refine under_run hl (by rw [← hgv, hb]) ?_
          refine vcL_mono ?_ (vcL_off (denL_ok hz (Q := fun e ρ2 w' => ∃ ρ1 σ', e = .normal ∧ Agr (liveG r lv) ρ1 ρ2 ∧ Stt σ0 w0 σ' w' ∧ denG P r lv (setL ρ ((slots (bits (dsts l) &&& liveG r lv)).map ρ1) (slots (bits (dsts l) &&& liveG r lv)) 0) σ' K)
            h (fun i hi => (hl i hi).1) ha.orR hs (fun ρ1 ρ2 σ' w' h1 h2 h3 => ⟨ρ1, σ', rfl, h1, h2, h3⟩)))
          rintro e ρ2 w' ⟨⟨ρ1, σ', rfl, h1, h2, h3⟩, ho⟩
          refine cont ρ1 ρ2 σ' w' (fun i _ hi => h1 i hi) (fun i hn hi => ?_) h2 h3
          rw [ho i (by rw [wrL_dsts]; exact hn)]
          exact keep i hn hi
        · rename_i hbw
          refine under_skip hl (fun b' hb' => ?_) ?_
          · rw [← hgv, hb] at hb'
            injection hb' with hb'; subst hb'; exact hbw
          · intro ρ' hρ
            refine cont (fun _ => undef) ρ' σ w (fun i hm _ => by rw [hρ i, if_pos hm]) (fun i hn hi => ?_) hs h
            · rw [hρ i, if_neg hn]; exact keep i hn hi
      · rename_i hnb
        refine under_skip hl (fun b' hb' => ?_) ?_
        · rw [← hgv] at hb'
          exact (hnb b' hb').elim
        · intro ρ' hρ
          refine cont (fun _ => undef) ρ' σ w (fun i hm _ => by rw [hρ i, if_pos hm]) (fun i hn hi => ?_) hs h
          · rw [hρ i, if_neg hn]; exact keep i hn hi
theorem denD_ok (hz : size w0 = σ0.n) {Q : Post} : ∀ {d : D} {lv : Nat} {ρ ρa : Env} {σ : AS} {w : World}, denD P d lv ρ σ K → Agr (liveD d lv) ρ ρa → Stt σ0 w0 σ w →
    (∀ ρ ρa σ w, Agr lv ρ ρa → Stt σ0 w0 σ w → K ρ σ → Q .normal ρa w) → vcD P d Q ρa w
  | .ops l, lv, ρ, ρa, σ, w, h, ha, hs, hq => by
    show vcL P l Q ρa w
    rw [← unG_grpL l]
    exact denG_ok hz h ha hs hq
  | .alt l a b, lv, ρ, ρa, σ, w, h, ha, hs, hq => by
    show vcL P l (fun _ ρ w => vcD P a Q ρ w ∧ vcD P b Q ρ w) ρa w
    rw [← unG_grpL l]
    refine denG_ok hz (K := fun ρ s => kAlt (denD P a lv ρ s K) (denD P b lv ρ s K)) h ha hs ?_
    intro ρ1 ρ2 σ' w' h1 h2 h3
    exact ⟨denD_ok hz h3.1 h1.orL h2 hq, denD_ok hz h3.2 h1.orR h2 hq⟩

theorem qq_end {lv lv' : Nat} {K K' : Kont} (e : Exit) (he : e ≠ .normal) (ρ : Env) (w : World) (h : QQ σ0 w0 lv ex rt K X R e ρ w) : QQ σ0 w0 lv' ex rt K' X R e ρ w := by
  obtain ⟨ρ', σ', h1, h2, h3⟩ := h
  cases e with
  | normal => exact (he rfl).elim
  | _ => exact ⟨ρ', σ', h1, h2, h3⟩

/-- What a range over a function has is what its code has been turned into. -/
def wfS (P : Program) : S → Prop
  | .seq a b => wfS P a ∧ wfS P b
  | .cond _ a b => wfS P a ∧ wfS P b
  | .blk _ a => wfS P a
  | .loop a => wfS P a
  | .rng N _ _ as bd a b => (∃ hs, a = trS P N hs as ∧ b = trS P N hs bd) ∧ noR a = true ∧ noR b = true ∧ wfS P a ∧ wfS P b
  | _ => True
theorem trS_wf {N : Nat} {hs : Hints} : ∀ c : Code, wfS P (trS P N hs c) := by
  intro c
  induction c with
  | region id ops draw =>
    cases draw with
    | false => simp only [trS]; split <;> trivial
    | true => simp only [trS]; split <;> trivial
  | seq a b iha ihb => exact ⟨iha, ihb⟩
  | cond c a b iha ihb =>
    simp only [trS]
    split
    · exact ⟨iha, ihb⟩
    · trivial
  | block id a ih => exact ih
  | loop a ih => exact ih
  | scope a ih => exact ih
  | rangeFunc g ps as bd iha ihb =>
    simp only [trS]
    split
    · split
      · rename_i hc
        simp only [Bool.and_eq_true] at hc
        exact ⟨⟨hs, rfl, rfl⟩, hc.2.1, hc.2.2, iha, ihb⟩
      · trivial
    · trivial
  | _ => trivial
theorem setPs_setL (ρ : Env) : ∀ (ps : List Nat) (pre vs : List Value) (i : Nat), ps.Nodup → vs.length = ps.length → setPs ρ ps vs i = setL ρ (pre ++ vs) ps pre.length i
  | [], _, vs, i, _, hl => by cases vs <;> rfl
  | p :: ps, pre, [], i, _, hl => by simp at hl
  | p :: ps, pre, v :: vs, i, hn, hl => by
    rw [List.nodup_cons] at hn
    have ih := fun (ρ : Env) => setPs_setL ρ ps (pre ++ [v]) vs i hn.2 (by simpa using hl)
    have e1 : setPs ρ (p :: ps) (v :: vs) i = setPs (up ρ p v) ps vs i := rfl
    have e2 : setL ρ (pre ++ v :: vs) (p :: ps) pre.length i = up (setL ρ (pre ++ v :: vs) ps (pre.length + 1)) p (gv (pre ++ v :: vs) pre.length) i := rfl
    have e3 : gv (pre ++ v :: vs) pre.length = v := by simp [gv]
    rw [e1, e2, e3, ih]
    have e4 : pre ++ [v] ++ vs = pre ++ v :: vs := by simp
    rw [e4, List.length_append, List.length_singleton]
    simp only [up]
    by_cases hi : i = p
    · subst hi
      rw [if_pos rfl, setL_off _ _ _ _ _ hn.1, up, if_pos rfl]
    · rw [if_neg hi]
      have : ∀ (L : List Nat) (k : Nat), setL (up ρ p v) (pre ++ v :: vs) L k i = setL ρ (pre ++ v :: vs) L k i := by
        intro L
        induction L with
        | nil => intro k; simp [setL, up, hi]
        | cons l L ih => intro k; simp only [setL, up]; split <;> first | rfl | exact ih _
      exact this _ _
theorem setPs_agr {m : Nat} {ρ ρa : Env} {ps : List Nat} {vs : List Value} {N : Nat} (hn : ps.Nodup) (hl : vs.length = ps.length) (h : Agr m ρ ρa) : Agr m (up (setL ρ vs ps 0) N undef) (up (setPs ρa ps vs) N undef) := by
  intro i hi
  simp only [up]
  split
  · rfl
  · rw [setPs_setL ρa ps [] vs i hn hl]
    have : ∀ (L : List Nat) (k : Nat), setL ρ ([] ++ vs) L k i = setL ρa ([] ++ vs) L k i := by
      intro L
      induction L with
      | nil => intro k; exact h i hi
      | cons l L ih => intro k; simp only [setL, up]; split <;> first | rfl | exact ih _
    exact this ps 0
theorem den_ok : ∀ (s : S), wfS P s → ∀ {σ0 : AS} {w0 : World} (hz : size w0 = σ0.n) {lv rt : Nat} {ex : Nat → Nat} {ρ ρa : Env} {σ : AS} {w : World} {K : Kont} {X : Nat → Kont} {R : Kont}, den P s lv ex rt ρ σ K X R → Agr (live s lv ex rt) ρ ρa → Stt σ0 w0 σ w → vcS P s (QQ σ0 w0 lv ex rt K X R) ρa w := by
  intro s
  induction s with
  | skip => intro hwf σ0 w0 hz lv rt ex ρ ρa σ w K X R h ha hs; exact ⟨ρ, σ, ha, hs, h⟩
  | ops l =>
    intro hwf σ0 w0 hz lv rt ex ρ ρa σ w K X R h ha hs
    show vcL P l _ ρa w
    rw [← unG_grpL l]
    exact denG_ok hz h ha hs (fun ρ ρa σ w h1 h2 h3 => ⟨ρ, σ, h1, h2, h3⟩)
  | draw d =>
    intro hwf σ0 w0 hz lv rt ex ρ ρa σ w K X R h ha hs
    have hs' : Stt σ0 w0 σ (w.drewN 1) := ⟨hs.sat.drewN 1, hs.keep.step (KeepP.drewN (fun _ => False) w 1) (fun _ h => h.elim), hs.fol⟩
    exact denD_ok hz h ha hs' (fun ρ ρa σ w h1 h2 h3 => ⟨ρ, σ, h1, h2, h3⟩)
  | seq a b iha ihb =>
    intro hwf σ0 w0 hz lv rt ex ρ ρa σ w K X R h ha hs
    replace ha : Agr (live a (live b lv ex rt) ex rt ||| (live b lv ex rt ^^^ (live b lv ex rt &&& wrM a))) ρ ρa := ha
    show vcS P a (thenQ (vcS P b (QQ σ0 w0 lv ex rt K X R)) (QQ σ0 w0 lv ex rt K X R)) ρa w
    simp only [den] at h
    cases hsb : (straight a || small b) with
    | true =>
      rw [hsb] at h
      refine vcS_mono ?_ (iha hwf.1 hz h ha.orL hs)
      intro e ρ1 w1 hq
      cases e with
      | normal =>
        obtain ⟨ρ', σ', h1, h2, h3⟩ := hq
        exact ihb hwf.2 hz h3 h1 h2
      | _ => exact qq_end _ (by simp) _ _ hq
    | false =>
      rw [hsb] at h
      refine vcS_mono ?_ (vcS_off (iha hwf.1 hz h ha.orL hs))
      intro e ρ1 w1 ⟨hq, ho⟩
      cases e with
      | normal =>
        obtain ⟨ρ', σ', h1, h2, h3⟩ := hq
        refine ihb hwf.2 hz h3 (Agr.handed (fun i _ hi => h1 i hi) (fun i hn hi => ?_)) h2
        rw [ho i hn]
        refine ha.orR i ?_
        have hw : (wrM a).testBit i = false := by
          cases hb : (wrM a).testBit i
          · rfl
          · exact (hn ((bits_mem _ _).1 hb)).elim
        rw [Nat.testBit_xor, Nat.testBit_and, hi, hw]; rfl
      | _ => exact qq_end _ (by simp) _ _ hq
  | cond c a b iha ihb =>
    intro hwf σ0 w0 hz lv rt ex ρ ρa σ w K X R h ha hs
    replace ha : Agr (bits (argR c) ||| (live a lv ex rt ||| live b lv ex rt)) ρ ρa := ha
    have hc : c.ev ρ = c.ev ρa := arg_congr (ha.orL.of_bits)
    show condP (c.ev ρa) _ _
    replace h : kCond (c.ev ρ) (den P a lv ex rt ρ σ K X R) (den P b lv ex rt ρ σ K X R) := h
    rw [hc] at h
    unfold kCond at h
    split at h
    · rename_i hv; rw [hv]; exact iha hwf.1 hz h ha.orR.orL hs
    · rename_i hv; rw [hv]; exact ihb hwf.2 hz h ha.orR.orR hs
    · exact h.elim
  | blk id a ih =>
    intro hwf σ0 w0 hz lv rt ex ρ ρa σ w K X R h ha hs
    show vcS P a (blkQ id (QQ σ0 w0 lv ex rt K X R)) ρa w
    refine vcS_mono ?_ (ih hwf hz h ha hs)
    intro e ρ1 w1 hq
    cases e with
    | exit i =>
      obtain ⟨ρ', σ', h1, h2, h3⟩ := hq
      simp only [blkQ]
      replace h1 : Agr (if i = id then lv else ex i) ρ' ρ1 := h1
      replace h3 : (if i = id then K else X i) ρ' σ' := h3
      by_cases hi : i = id
      · rw [if_pos hi]
        rw [if_pos hi] at h1 h3
        exact ⟨ρ', σ', h1, h2, h3⟩
      · rw [if_neg hi]
        rw [if_neg hi] at h1 h3
        exact ⟨ρ', σ', h1, h2, h3⟩
    | _ =>
      obtain ⟨ρ', σ', h1, h2, h3⟩ := hq
      exact ⟨ρ', σ', h1, h2, h3⟩
  | loop a ih =>
    intro hwf σ0 w0 hz lv rt ex ρ ρa σ w K X R h ha hs
    replace ha : Agr (live a 0 ex rt) ρ ρa := ha
    simp only [den] at h
    split at h
    · rename_i hfix
      obtain ⟨I, ⟨n0, h0⟩, hr⟩ := h
      refine ⟨fun n ρ1 w1 => ∃ xs σ1, I n xs σ1 ∧ Agr (live a 0 ex rt) (setL ρ xs (slots (wrM a &&& live a 0 ex rt)) 0) ρ1 ∧ Stt σ0 w0 σ1 w1 ∧ Off (wrS a) ρa ρ1, ⟨n0, _, σ, h0, ?_, hs, Off.refl _ _⟩, ?_⟩
      · exact Agr.handed (fun i _ hi => ha i hi) (fun i _ hi => ha i hi)
      · intro n ρ1 w1 ⟨xs, σ1, hi, ha1, hs1, ho1⟩
        have hsub : ∀ i, (live a (live a 0 ex rt) ex rt).testBit i = true → (live a 0 ex rt).testBit i = true := fun i hi => by
          rw [← hfix, Nat.testBit_or, hi, Bool.true_or]
        refine vcS_mono ?_ (vcS_off (ih hwf hz (hr n xs σ1 hi) (fun i hi => ha1 i (hsub i hi)) hs1))
        intro e ρ2 w2 ⟨hq, ho⟩
        cases e with
        | normal =>
          obtain ⟨ρ', σ', h1, h2, n', hn, h3⟩ := hq
          refine ⟨n', hn, _, σ', h3, Agr.handed (fun i _ hi => h1 i hi) (fun i hn hi => ?_), h2, Off.trans ho1 ho⟩
          rw [(Off.trans ho1 ho) i hn]
          exact ha i hi
        | _ => exact qq_end _ (by simp) _ _ hq
    · exact h.elim
  | exit id => intro hwf σ0 w0 hz lv rt ex ρ ρa σ w K X R h ha hs; exact ⟨ρ, σ, ha, hs, h⟩
  | ret => intro hwf σ0 w0 hz lv rt ex ρ ρa σ w K X R h ha hs; exact ⟨ρ, σ, ha, hs, h⟩
  | bad => intro hwf σ0 w0 hz lv rt ex ρ ρa σ w K X R h ha hs; exact h.elim
  | rng N x ps as bd a b iha ihb =>
    intro hwf σ0 w0 hz lv rt ex ρ ρa σ w K X R h ha hs
    replace ha : Agr (bits (argR x) ||| ((1 <<< N) ||| (lv ||| live a (live b 0 (fun _ => 0) 0) (fun _ => 0) 0))) ρ ρa := ha
    obtain ⟨⟨hh, ea, eb⟩, hna, hnb, hwa, hwb⟩ := hwf
    have hx : x.ev ρ = x.ev ρa := arg_congr (ha.orL.of_bits)
    simp only [den] at h
    split at h
    · rename_i hnd
      have hnd := of_decide_eq_true hnd
      rw [hx] at h
      show rngP P N (x.ev ρa) ps as bd ρa w _
      unfold kRng at h
      split at h
      · rename_i g first cap hf
        obtain ⟨hok, h⟩ := h
        rw [hf]
        dsimp only [rngP]
        refine ⟨hok, fun fn => ?_⟩
        have hsz := hs.sat.sz
        have hk := h (.loop (recL N ρa ps as bd (size w) fn .ready)) (.loop (recL N ρa ps as bd (size w) fn .busy)) ?_
        · have s1 : Sat (σ.new (.other (.deferred (some [])))) (w.alloc (.deferred (some []))) := hs.sat.new_ (fun _ he => he)
          have s2 := s1.new_ (o := .loop (recL N ρa ps as bd (size w) fn .ready)) (ob := .other (.loop (recL N ρa ps as bd (size w) fn .ready))) (fun _ he => he)
          have hc := hk _ s2
          rw [← hsz] at hc
          refine callP_mono hc ?_
          rintro v w' ⟨hkeep, σ', hsat', hfol', hm, hK⟩
          have hl : w'.heap[size w + 1]? = some (.loop (recL N ρa ps as bd (size w) fn .ready)) := hsat'.m _ _ hm
          refine ⟨hl, _, σ'.put (size w + 1) (.other (.loop (recL N ρa ps as bd (size w) fn .exhausted))), ?_, ⟨?_, ?_, ?_⟩, hK _⟩
          · intro i hi
            simp only [up]
            split
            · rename_i e
              have e2 : ρ N = ρa N := ha.orR.orL N (by rw [one_bit]; simp)
              rw [e2]
            · exact ha.orR.orR.orL i hi
          · exact hsat'.obj_ hm _
          · have k1 : KeepP σ.live w (w.alloc (.deferred (some []))) := KeepP.alloc _ _ _
            have k2 := k1.step (KeepP.alloc (fun _ => False) (w.alloc (.deferred (some []))) (.loop (recL N ρa ps as bd (size w) fn .ready))) (fun _ h => h.elim)
            have hlive : ∀ i, AS.live ((σ.new (.other (.deferred (some [])))).new (.other (.loop (recL N ρa ps as bd (size w) fn .ready)))) i → σ.live i ∨ size w ≤ i := by
              intro i hi
              unfold AS.live at hi ⊢
              by_cases e1 : i = σ.n + 1
              · exact .inr (by omega)
              · rw [new_ne (by rw [new_n]; exact e1)] at hi
                by_cases e2 : i = σ.n
                · exact .inr (by omega)
                · rw [new_ne e2] at hi
                  exact .inl hi
            have k3 := k2.step hkeep hlive
            have k4 := k3.step (KeepP.obj_ (S := fun i => i = size w + 1) rfl (.loop (recL N ρa ps as bd (size w) fn .exhausted))) (fun i hi => .inr (by omega))
            exact hs.keep.step k4 (fun i hi => by
              rcases hs.fol.m i hi with h | h
              · exact .inl h
              · exact .inr (by omega))
          · exact ((hs.fol.trans (Fol.new _ _)).trans (Fol.new _ _)).trans (hfol'.trans (Fol.put _ _ _))
        · intro args σ1 k' hm1 hB w1 hw1
          obtain ⟨hlen, hB⟩ := hB
          have hl1 : w1.heap[σ.n + 1]? = some (.loop (recL N ρa ps as bd (size w) fn .ready)) := hw1.m _ _ hm1
          have hsz1 := hw1.sz
          refine yld_ok (N := N) (hs := hh) (ρ := ρa) hl1 hlen ⟨ea ▸ hna, eb ▸ hnb⟩ ?_
          rw [← ea, ← eb]
          have hagr : Agr (live a (live b 0 (fun _ => 0) 0) (fun _ => 0) 0) (up (setL ρ args ps.toList 0) N undef) (up (setPs ρa ps.toList args) N undef) :=
            setPs_agr hnd (by simpa using hlen) ha.orR.orR.orR
          refine vcS_mono ?_ (iha hwa (σ0 := σ1) (w0 := w1) hsz1 hB hagr ⟨hw1, KeepP.refl _ _, Fol.refl _⟩)
          rintro e ρ2 w2 ⟨ρ2', σ2, h1, h2, h3⟩
          cases e with
          | normal =>
            obtain ⟨hm2, h3⟩ := h3
            refine ⟨h2.sat.m _ _ hm2, ?_⟩
            have hs3 : Stt σ1 w1 (σ2.put (σ.n + 1) (.other (.loop (recL N ρa ps as bd (size w) fn .busy)))) (w2.putObj (σ.n + 1) (.loop (recL N ρa ps as bd (size w) fn .busy))) :=
              ⟨h2.sat.obj_ hm2 _, h2.keep.step (KeepP.obj_ (S := fun i => i = σ.n + 1) rfl _) (fun i hi => .inl (by rw [hi]; unfold AS.live; rw [hm1]; simp)), h2.fol.trans (Fol.put _ _ _)⟩
            refine vcS_mono ?_ (ihb hwb hsz1 h3 h1 hs3)
            rintro e ρ4 w4 ⟨ρ4', σ4, h5, h6, h7⟩
            cases e with
            | normal =>
              obtain ⟨hm4, h7⟩ := h7
              refine ⟨h6.sat.m _ _ hm4, ?_⟩
              exact ⟨h6.keep.step (KeepP.obj_ (S := fun i => i = σ.n + 1) rfl _) (fun i hi => .inl (by rw [hi]; unfold AS.live; rw [hm1]; simp)), _, h6.sat.obj_ hm4 _, h6.fol.trans (Fol.put _ _ _), h7⟩
            | exit i => exact h7.elim
            | ret => exact h7.elim
            | goto l => exact h7.elim
            | panic ch => exact h7.elim
            | outgrown => exact h7.elim
          | exit i => exact h3.elim
          | ret => exact h3.elim
          | goto l => exact h3.elim
          | panic ch => exact h3.elim
          | outgrown => exact h3.elim
      · exact h.elim
    · exact h.elim

/-! ### Functions -/
def kRet : List RV → Env → AS → (List Value → Prop) → Prop
  | [], _, _, k => k []
  | .t i :: r, ρ, s, k => kRet r ρ s fun vs => k (ρ i :: vs)
  | .ld i :: r, ρ, s, k => kLd s (ρ i) fun v => kRet r ρ s fun vs => k (v :: vs)
  | .ldN n i :: r, ρ, s, k => kLdN s n (ρ i) fun v => kRet r ρ s fun vs => k (v :: vs)
def rvR : List RV → List Nat
  | [] => []
  | .t i :: r | .ld i :: r | .ldN _ i :: r => i :: rvR r
def denF (P : Program) (sf : SF) (args : List Value) (s : AS) (k : Value → AS → Prop) : Prop :=
  den P sf.body (bits (sf.n :: rvR sf.res)) (fun _ => 0) (bits (sf.n :: rvR sf.res)) (ini args) s (fun ρ s' => kFin P (valsOf (ρ sf.n)) s' fun s' => kRet sf.res ρ s' fun vs => k (tupV vs) s') (fun _ _ _ => False) (fun ρ s' => kFin P (valsOf (ρ sf.n)) s' fun s' => kRet sf.res ρ s' fun vs => k (tupV vs) s')
theorem kRet_ok (hs : Sat σ w) : ∀ {l : List RV} {k : List Value → Prop} {ρ ρa : Env}, kRet l ρ σ k → Agr (bits (rvR l)) ρ ρa → resP l ρa w k
  | [], k, ρ, ρa, h, _ => h
  | .t i :: r, k, ρ, ρa, h, ha => by
    have := kRet_ok hs (l := r) h (ρa := ρa) (fun j hj => ha j ((bits_mem _ _).2 (by simp [rvR, (bits_mem _ _).1 hj])))
    have e : ρ i = ρa i := ha i ((bits_mem _ _).2 (by simp [rvR]))
    rw [e] at this
    exact this
  | .ld i :: r, k, ρ, ρa, h, ha => by
    have e : ρ i = ρa i := ha i ((bits_mem _ _).2 (by simp [rvR]))
    obtain ⟨v, hv, hk⟩ := seqO_ex (show seqO (ldS σ (ρ i)) _ from h)
    rw [e] at hv
    show seqO (ldV w (ρa i)) _
    rw [hs.ldS hv]
    exact kRet_ok hs (l := r) hk (fun j hj => ha j ((bits_mem _ _).2 (by simp [rvR, (bits_mem _ _).1 hj])))
  | .ldN n i :: r, k, ρ, ρa, h, ha => by
    have e : ρ i = ρa i := ha i ((bits_mem _ _).2 (by simp [rvR]))
    obtain ⟨v, hv, hk⟩ := seqO_ex (show seqO (ldNS σ n (ρ i)) _ from h)
    rw [e] at hv
    show seqO (ldNV w n (ρa i)) _
    rw [hs.ldN hv]
    exact kRet_ok hs (l := r) hk (fun j hj => ha j ((bits_mem _ _).2 (by simp [rvR, (bits_mem _ _).1 hj])))
theorem kFin_ok {σ0 : AS} {w0 : World} : ∀ {l : List Value} {σ : AS} {w : World} {k : AS → Prop} {k' : World → Prop}, kFin P l σ k → Stt σ0 w0 σ w → size w0 = σ0.n → (∀ σ w, Stt σ0 w0 σ w → k σ → k' w) → finP P l w k'
  | [], σ, w, k, k', h, hs, _, hk => hk _ _ hs h
  | x :: r, σ, w, k, k', h, hs, hz, hk => by
    unfold kFin at h
    split at h
    · rename_i heq; cases heq
    · rename_i kd D r' heq
      injection heq with e1 e2
      subst e1; subst e2
      obtain ⟨hm, h⟩ := h
      refine ⟨hs.sat.m _ _ hm, kFin_ok h ⟨hs.sat.obj_ hm _, hs.keep.step (KeepP.obj_ (S := fun i => i = D.toNat) rfl _) (fun i hi => ?_), hs.fol.trans (Fol.put _ _ _)⟩ hz hk⟩
      subst hi
      rcases hs.fol.m D.toNat (by rw [hm]; simp) with h | h
      · exact .inl h
      · exact .inr (by omega)
    · rename_i f first cap r' heq
      injection heq with e1 e2
      subst e1; subst e2
      obtain ⟨hok, h⟩ := h
      refine ⟨hok, CallsDIn.mono (h w hs.sat) ?_⟩
      rintro e u' w' ⟨hu, v, he, hkp, σ', h2, h3, h4⟩
      refine ⟨hu, v, he, kFin_ok h4 ⟨h2, hs.keep.step hkp (fun i hi => ?_), hs.fol.trans h3⟩ hz hk⟩
      rcases hs.fol.m i hi with h | h
      · exact .inl h
      · exact .inr (by omega)
    · exact h.elim
/-- A function's contract, out of its walk. -/
theorem denF_ok {hints : Hints} {f : FuncId} {sf : SF} {args : List Value} {k : Value → AS → Prop} (hf : trF P hints f = some sf) (ha : args.length = sf.k) (h : denF P sf args σ k) : kCall P f args σ k := by
  intro w hs
  refine fn_ok hf ha ?_
  have hwf : wfS P sf.body := by
    simp only [trF, Option.bind_eq_some_iff] at hf
    obtain ⟨fn, hfn, c, hc, rs, hrs, hf⟩ := hf
    split at hf
    · injection hf with hf; subst hf; exact trS_wf c
    · cases hf
  refine vcS_mono ?_ (den_ok sf.body hwf (σ0 := σ) (w0 := w) hs.sz h (ρa := ini args) (fun _ _ => rfl) ⟨hs, KeepP.refl _ _, Fol.refl _⟩)
  rintro e ρ w' ⟨ρ', σ', h1, h2, h3⟩
  have key : Agr (bits (sf.n :: rvR sf.res)) ρ' ρ → kFin P (valsOf (ρ' sf.n)) σ' (fun σ' => kRet sf.res ρ' σ' (fun vs => k (tupV vs) σ')) → finP P (valsOf (ρ sf.n)) w' fun w' => resP sf.res ρ w' fun vs => KeepP σ.live w w' ∧ ∃ σ', Sat σ' w' ∧ Fol σ σ' ∧ k (tupV vs) σ' := by
    intro h1 h3
    have hN : ρ' sf.n = ρ sf.n := h1 _ ((bits_mem _ _).2 (by simp))
    rw [hN] at h3
    refine kFin_ok h3 h2 hs.sz (fun σ' w' h2 h3 => ?_)
    have := kRet_ok (k := fun vs => KeepP σ.live w w' ∧ ∃ σ', Sat σ' w' ∧ Fol σ σ' ∧ k (tupV vs) σ') h2.sat (l := sf.res) (ρ := ρ') (ρa := ρ) ?_ (fun i hi => h1 i ((bits_mem _ _).2 (List.mem_cons_of_mem _ ((bits_mem _ _).1 hi))))
    · exact this
    · have mono : ∀ (l : List RV) (k k' : List Value → Prop), (∀ vs, k vs → k' vs) → kRet l ρ' σ' k → kRet l ρ' σ' k' := by
        intro l
        induction l with
        | nil => intro k k' hk h; exact hk _ h
        | cons x r ih =>
          intro k k' hk h
          cases x with
          | t i => exact ih _ _ (fun vs h => hk _ h) h
          | ld i => exact seqO_mono (fun v hv => ih _ _ (fun vs h => hk _ h) hv) h
          | ldN n i => exact seqO_mono (fun v hv => ih _ _ (fun vs h => hk _ h) hv) h
      exact mono _ _ _ (fun vs h => ⟨h2.keep, σ', h2.sat, h2.fol, h⟩) h3
  cases e with
  | normal => exact key h1 h3
  | ret => exact key h1 h3
  | exit i => exact h3.elim
  | goto i => exact h3.elim
  | panic i => exact h3.elim
  | outgrown => exact h3.elim
/-- A function that is called at an end, out of its walk. -/
theorem denF_okD {hints : Hints} {f : FuncId} {sf : SF} {args : List Value} {k : AS → Prop} (hf : trF P hints f = some sf) (ha : args.length = sf.k) (hn : (wrS sf.body).contains sf.n = false) (h : denF P sf args σ fun _ s => k s) : kDfr P f args σ k := by
  intro w hs
  refine fnD_ok hf ha hn ?_
  have hwf : wfS P sf.body := by
    simp only [trF, Option.bind_eq_some_iff] at hf
    obtain ⟨fn, hfn, c, hc, rs, hrs, hf⟩ := hf
    split at hf
    · injection hf with hf; subst hf; exact trS_wf c
    · cases hf
  refine vcS_mono ?_ (den_ok sf.body hwf (σ0 := σ) (w0 := w) hs.sz h (ρa := ini args) (fun _ _ => rfl) ⟨hs, KeepP.refl _ _, Fol.refl _⟩)
  rintro e ρ w' ⟨ρ', σ', h1, h2, h3⟩
  have key : Agr (bits (sf.n :: rvR sf.res)) ρ' ρ → kFin P (valsOf (ρ' sf.n)) σ' (fun σ' => kRet sf.res ρ' σ' (fun vs => k σ')) → finP P (valsOf (ρ sf.n)) w' fun w' => resP sf.res ρ w' fun vs => KeepP σ.live w w' ∧ ∃ σ', Sat σ' w' ∧ Fol σ σ' ∧ k σ' := by
    intro h1 h3
    have hN : ρ' sf.n = ρ sf.n := h1 _ ((bits_mem _ _).2 (by simp))
    rw [hN] at h3
    refine kFin_ok h3 h2 hs.sz (fun σ' w' h2 h3 => ?_)
    have := kRet_ok (k := fun vs => KeepP σ.live w w' ∧ ∃ σ', Sat σ' w' ∧ Fol σ σ' ∧ k σ') h2.sat (l := sf.res) (ρ := ρ') (ρa := ρ) ?_ (fun i hi => h1 i ((bits_mem _ _).2 (List.mem_cons_of_mem _ ((bits_mem _ _).1 hi))))
    · exact this
    · have mono : ∀ (l : List RV) (k k' : List Value → Prop), (∀ vs, k vs → k' vs) → kRet l ρ' σ' k → kRet l ρ' σ' k' := by
        intro l
        induction l with
        | nil => intro k k' hk h; exact hk _ h
        | cons x r ih =>
          intro k k' hk h
          cases x with
          | t i => exact ih _ _ (fun vs h => hk _ h) h
          | ld i => exact seqO_mono (fun v hv => ih _ _ (fun vs h => hk _ h) hv) h
          | ldN n i => exact seqO_mono (fun v hv => ih _ _ (fun vs h => hk _ h) hv) h
      exact mono _ _ _ (fun vs h => ⟨h2.keep, σ', h2.sat, h2.fol, h⟩) h3
  cases e with
  | normal => exact key h1 h3
  | ret => exact key h1 h3
  | exit i => exact h3.elim
  | goto i => exact h3.elim
  | panic i => exact h3.elim
  | outgrown => exact h3.elim
end
end Go.Proofs.YtpnefcapiiemdaaGreatDoor.E

/- Functions by their number. Conditions: none. -/
namespace Go.Proofs.YtpnefcapiiemdaaGreatDoor.E
open Go.RowKit

def denFn (P : Program) (hints : Hints) (f : Nat) (args : List Value) (s : AS) (k : Value → AS → Prop) : Prop :=
  match trF P hints f with
  | some sf => if args.length = sf.k then denF P sf args s k else False
  | none => False
theorem denFn_ok {P : Program} (hints : Hints) {f : Nat} {args : List Value} {s : AS} {k : Value → AS → Prop} (h : denFn P hints f args s k) : kCall P f args s k := by
  unfold denFn at h
  split at h
  · rename_i sf hf
    split at h
    · rename_i ha; exact denF_ok hf ha h
    · exact h.elim
  · exact h.elim
/-- A function by its printed walk. -/
theorem fn_by {P : Program} {hints : Hints} {f : Nat} {args : List Value} {s : AS} {k : Value → AS → Prop} {A : Prop} (e : denFn P hints f args s k = A) (h : A) : kCall P f args s k := denFn_ok hints (e.symm ▸ h)

/-- Does the function put nothing off itself? -/
def quietB (P : Program) (hints : Hints) (f : Nat) : Bool := match trF P hints f with
  | some sf => !(wrS sf.body).contains sf.n
  | none => false
/-- A function that is called at an end, by its printed walk. -/
theorem fnD_by {P : Program} {hints : Hints} {f : Nat} {args : List Value} {s : AS} {k : AS → Prop} {A : Prop} (hq : quietB P hints f = true) (e : denFn P hints f args s (fun _ s => k s) = A) (h : A) : kDfr P f args s k := by
  rw [← e] at h
  unfold denFn at h
  unfold quietB at hq
  split at h
  · rename_i sf hf
    rw [hf] at hq
    split at h
    · rename_i ha; exact denF_okD hf ha (by simpa using hq) h
    · exact h.elim
  · exact h.elim
/-- A call is put off. -/
theorem dfr_by {P : Program} {g : Nat} {a b : Array Value} {m : Value} {s : AS} {k : Value → AS → Prop} (h : k (consM (.func (.func g) a b) m) s) : kGen P .dfr [.func (.func g) a b, m] s k :=
  fun w hw => ⟨_, w, rfl, Out.same hw h⟩

/-! Values out of a list -/
def un1 (xs : List Value) (k : Value → Prop) (_ : Dm k := ()) : Prop := k (gv xs 0)
theorem un1_l (a0 : Value) (k : Value → Prop) : un1 [a0] k = k a0 := rfl
def un2 (xs : List Value) (k : Value → Value → Prop) (_ : Dm k := ()) : Prop := k (gv xs 0) (gv xs 1)
theorem un2_l (a0 a1 : Value) (k : Value → Value → Prop) : un2 [a0, a1] k = k a0 a1 := rfl
def un3 (xs : List Value) (k : Value → Value → Value → Prop) (_ : Dm k := ()) : Prop := k (gv xs 0) (gv xs 1) (gv xs 2)
theorem un3_l (a0 a1 a2 : Value) (k : Value → Value → Value → Prop) : un3 [a0, a1, a2] k = k a0 a1 a2 := rfl
def un4 (xs : List Value) (k : Value → Value → Value → Value → Prop) (_ : Dm k := ()) : Prop := k (gv xs 0) (gv xs 1) (gv xs 2) (gv xs 3)
theorem un4_l (a0 a1 a2 a3 : Value) (k : Value → Value → Value → Value → Prop) : un4 [a0, a1, a2, a3] k = k a0 a1 a2 a3 := rfl
def un5 (xs : List Value) (k : Value → Value → Value → Value → Value → Prop) (_ : Dm k := ()) : Prop := k (gv xs 0) (gv xs 1) (gv xs 2) (gv xs 3) (gv xs 4)
theorem un5_l (a0 a1 a2 a3 a4 : Value) (k : Value → Value → Value → Value → Value → Prop) : un5 [a0, a1, a2, a3, a4] k = k a0 a1 a2 a3 a4 := rfl
def un6 (xs : List Value) (k : Value → Value → Value → Value → Value → Value → Prop) (_ : Dm k := ()) : Prop := k (gv xs 0) (gv xs 1) (gv xs 2) (gv xs 3) (gv xs 4) (gv xs 5)
theorem un6_l (a0 a1 a2 a3 a4 a5 : Value) (k : Value → Value → Value → Value → Value → Value → Prop) : un6 [a0, a1, a2, a3, a4, a5] k = k a0 a1 a2 a3 a4 a5 := rfl
def un7 (xs : List Value) (k : Value → Value → Value → Value → Value → Value → Value → Prop) (_ : Dm k := ()) : Prop := k (gv xs 0) (gv xs 1) (gv xs 2) (gv xs 3) (gv xs 4) (gv xs 5) (gv xs 6)
theorem un7_l (a0 a1 a2 a3 a4 a5 a6 : Value) (k : Value → Value → Value → Value → Value → Value → Value → Prop) : un7 [a0, a1, a2, a3, a4, a5, a6] k = k a0 a1 a2 a3 a4 a5 a6 := rfl
def un8 (xs : List Value) (k : Value → Value → Value → Value → Value → Value → Value → Value → Prop) (_ : Dm k := ()) : Prop := k (gv xs 0) (gv xs 1) (gv xs 2) (gv xs 3) (gv xs 4) (gv xs 5) (gv xs 6) (gv xs 7)
theorem un8_l (a0 a1 a2 a3 a4 a5 a6 a7 : Value) (k : Value → Value → Value → Value → Value → Value → Value → Value → Prop) : un8 [a0, a1, a2, a3, a4, a5, a6, a7] k = k a0 a1 a2 a3 a4 a5 a6 a7 := rfl
def un9 (xs : List Value) (k : Value → Value → Value → Value → Value → Value → Value → Value → Value → Prop) (_ : Dm k := ()) : Prop := k (gv xs 0) (gv xs 1) (gv xs 2) (gv xs 3) (gv xs 4) (gv xs 5) (gv xs 6) (gv xs 7) (gv xs 8)
theorem un9_l (a0 a1 a2 a3 a4 a5 a6 a7 a8 : Value) (k : Value → Value → Value → Value → Value → Value → Value → Value → Value → Prop) : un9 [a0, a1, a2, a3, a4, a5, a6, a7, a8] k = k a0 a1 a2 a3 a4 a5 a6 a7 a8 := rfl
def un10 (xs : List Value) (k : Value → Value → Value → Value → Value → Value → Value → Value → Value → Value → Prop) (_ : Dm k := ()) : Prop := k (gv xs 0) (gv xs 1) (gv xs 2) (gv xs 3) (gv xs 4) (gv xs 5) (gv xs 6) (gv xs 7) (gv xs 8) (gv xs 9)
theorem un10_l (a0 a1 a2 a3 a4 a5 a6 a7 a8 a9 : Value) (k : Value → Value → Value → Value → Value → Value → Value → Value → Value → Value → Prop) : un10 [a0, a1, a2, a3, a4, a5, a6, a7, a8, a9] k = k a0 a1 a2 a3 a4 a5 a6 a7 a8 a9 := rfl
def un11 (xs : List Value) (k : Value → Value → Value → Value → Value → Value → Value → Value → Value → Value → Value → Prop) (_ : Dm k := ()) : Prop := k (gv xs 0) (gv xs 1) (gv xs 2) (gv xs 3) (gv xs 4) (gv xs 5) (gv xs 6) (gv xs 7) (gv xs 8) (gv xs 9) (gv xs 10)
theorem un11_l (a0 a1 a2 a3 a4 a5 a6 a7 a8 a9 a10 : Value) (k : Value → Value → Value → Value → Value → Value → Value → Value → Value → Value → Value → Prop) : un11 [a0, a1, a2, a3, a4, a5, a6, a7, a8, a9, a10] k = k a0 a1 a2 a3 a4 a5 a6 a7 a8 a9 a10 := rfl
def un12 (xs : List Value) (k : Value → Value → Value → Value → Value → Value → Value → Value → Value → Value → Value → Value → Prop) (_ : Dm k := ()) : Prop := k (gv xs 0) (gv xs 1) (gv xs 2) (gv xs 3) (gv xs 4) (gv xs 5) (gv xs 6) (gv xs 7) (gv xs 8) (gv xs 9) (gv xs 10) (gv xs 11)
theorem un12_l (a0 a1 a2 a3 a4 a5 a6 a7 a8 a9 a10 a11 : Value) (k : Value → Value → Value → Value → Value → Value → Value → Value → Value → Value → Value → Value → Prop) : un12 [a0, a1, a2, a3, a4, a5, a6, a7, a8, a9, a10, a11] k = k a0 a1 a2 a3 a4 a5 a6 a7 a8 a9 a10 a11 := rfl
def un13 (xs : List Value) (k : Value → Value → Value → Value → Value → Value → Value → Value → Value → Value → Value → Value → Value → Prop) (_ : Dm k := ()) : Prop := k (gv xs 0) (gv xs 1) (gv xs 2) (gv xs 3) (gv xs 4) (gv xs 5) (gv xs 6) (gv xs 7) (gv xs 8) (gv xs 9) (gv xs 10) (gv xs 11) (gv xs 12)
theorem un13_l (a0 a1 a2 a3 a4 a5 a6 a7 a8 a9 a10 a11 a12 : Value) (k : Value → Value → Value → Value → Value → Value → Value → Value → Value → Value → Value → Value → Value → Prop) : un13 [a0, a1, a2, a3, a4, a5, a6, a7, a8, a9, a10, a11, a12] k = k a0 a1 a2 a3 a4 a5 a6 a7 a8 a9 a10 a11 a12 := rfl
def un14 (xs : List Value) (k : Value → Value → Value → Value → Value → Value → Value → Value → Value → Value → Value → Value → Value → Value → Prop) (_ : Dm k := ()) : Prop := k (gv xs 0) (gv xs 1) (gv xs 2) (gv xs 3) (gv xs 4) (gv xs 5) (gv xs 6) (gv xs 7) (gv xs 8) (gv xs 9) (gv xs 10) (gv xs 11) (gv xs 12) (gv xs 13)
theorem un14_l (a0 a1 a2 a3 a4 a5 a6 a7 a8 a9 a10 a11 a12 a13 : Value) (k : Value → Value → Value → Value → Value → Value → Value → Value → Value → Value → Value → Value → Value → Value → Prop) : un14 [a0, a1, a2, a3, a4, a5, a6, a7, a8, a9, a10, a11, a12, a13] k = k a0 a1 a2 a3 a4 a5 a6 a7 a8 a9 a10 a11 a12 a13 := rfl
def un15 (xs : List Value) (k : Value → Value → Value → Value → Value → Value → Value → Value → Value → Value → Value → Value → Value → Value → Value → Prop) (_ : Dm k := ()) : Prop := k (gv xs 0) (gv xs 1) (gv xs 2) (gv xs 3) (gv xs 4) (gv xs 5) (gv xs 6) (gv xs 7) (gv xs 8) (gv xs 9) (gv xs 10) (gv xs 11) (gv xs 12) (gv xs 13) (gv xs 14)
theorem un15_l (a0 a1 a2 a3 a4 a5 a6 a7 a8 a9 a10 a11 a12 a13 a14 : Value) (k : Value → Value → Value → Value → Value → Value → Value → Value → Value → Value → Value → Value → Value → Value → Value → Prop) : un15 [a0, a1, a2, a3, a4, a5, a6, a7, a8, a9, a10, a11, a12, a13, a14] k = k a0 a1 a2 a3 a4 a5 a6 a7 a8 a9 a10 a11 a12 a13 a14 := rfl
def un16 (xs : List Value) (k : Value → Value → Value → Value → Value → Value → Value → Value → Value → Value → Value → Value → Value → Value → Value → Value → Prop) (_ : Dm k := ()) : Prop := k (gv xs 0) (gv xs 1) (gv xs 2) (gv xs 3) (gv xs 4) (gv xs 5) (gv xs 6) (gv xs 7) (gv xs 8) (gv xs 9) (gv xs 10) (gv xs 11) (gv xs 12) (gv xs 13) (gv xs 14) (gv xs 15)
theorem un16_l (a0 a1 a2 a3 a4 a5 a6 a7 a8 a9 a10 a11 a12 a13 a14 a15 : Value) (k : Value → Value → Value → Value → Value → Value → Value → Value → Value → Value → Value → Value → Value → Value → Value → Value → Prop) : un16 [a0, a1, a2, a3, a4, a5, a6, a7, a8, a9, a10, a11, a12, a13, a14, a15] k = k a0 a1 a2 a3 a4 a5 a6 a7 a8 a9 a10 a11 a12 a13 a14 a15 := rfl
end Go.Proofs.YtpnefcapiiemdaaGreatDoor.E
