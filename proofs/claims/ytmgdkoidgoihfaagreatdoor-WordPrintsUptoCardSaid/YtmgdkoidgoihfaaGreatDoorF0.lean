/- Abstract states: what is known of the blocks that may turn, of the cells that stay, and how many blocks there are; what a world has to do with one. Conditions: none. -/
import Derived.Test.YtmgdkoidgoihfaaGreatDoorE9
namespace Go.Proofs.YtmgdkoidgoihfaaGreatDoor.E
open Go.RowKit

/-- What a block holds that may turn: cells, or another object as it is. -/
inductive Ob where
  | cells (l : List Value)
  | other (o : Obj)
  | typed (t : TypeId) (l : List Value)
def obAt (w : World) (g : Nat) : Ob → Prop
  | .cells l => blk w g = some l
  | .other o => w.heap[g]? = some o
  | .typed t l => w.heap[g]? = some (.cells l.toArray t (0, 0))

structure AS where
  m : Nat → Option Ob
  c : Nat → Nat → Option Value
  n : Nat
  wm : ∀ g, m g ≠ none → g < n
  wc : ∀ b o, c b o ≠ none → b < n ∧ m b = none

/-- All but the blocks in S is as it was. -/
structure KeepP (S : Nat → Prop) (w w' : World) : Prop where
  os : w'.os = w.os
  tape : w'.tape = w.tape
  output : w'.output = w.output
  sz : size w ≤ size w'
  heap : ∀ k, k < size w → ¬ S k → w'.heap[k]? = w.heap[k]?
section
variable {S S' : Nat → Prop} {a w w' w'' : World}
theorem KeepP.refl (S : Nat → Prop) (w : World) : KeepP S w w := ⟨rfl, rfl, rfl, Nat.le_refl _, fun _ _ _ => rfl⟩
theorem KeepP.step (h : KeepP S a w) (k : KeepP S' w w') (ht : ∀ i, S' i → S i ∨ size a ≤ i) : KeepP S a w' :=
  ⟨k.os.trans h.os, k.tape.trans h.tape, k.output.trans h.output, Nat.le_trans h.sz k.sz, fun i hi hn => (k.heap i (Nat.lt_of_lt_of_le hi h.sz) (fun hT => by
    rcases ht i hT with h1 | h1
    · exact hn h1
    · omega)).trans (h.heap i hi hn)⟩
theorem KeepP.new_ (S : Nat → Prop) (w : World) (l : List Value) (t : TypeId) : KeepP S w (new w l t) :=
  ⟨rfl, rfl, rfl, by rw [size_new]; omega, fun k hk _ => Below.heap_alloc _ _ _ hk⟩
theorem KeepP.alloc (S : Nat → Prop) (w : World) (o : Obj) : KeepP S w (w.alloc o) :=
  ⟨rfl, rfl, rfl, by simp [size], fun k hk _ => Below.heap_alloc _ _ _ hk⟩
theorem KeepP.put_ {g : Nat} (hg : S g) (l : List Value) : KeepP S w (put w g l) :=
  ⟨rfl, rfl, rfl, by rw [size_put]; omega, fun k hk hn => heap_put_ne (fun e => by subst e; exact hn hg) l⟩
theorem KeepP.drewN (S : Nat → Prop) (w : World) (n : Nat) : KeepP S w (w.drewN n) := ⟨rfl, rfl, rfl, Nat.le_refl _, fun _ _ _ => rfl⟩
end

section
variable {σ σ' : AS} {g k j : Nat} {ob : Ob} {l : List Value}
def AS.live (σ : AS) (g : Nat) : Prop := σ.m g ≠ none
theorem AS.lt {o : Ob} (h : σ.m g = some o) : g < σ.n := σ.wm g (by simp [h])
theorem AS.ltc {b o : Nat} {v : Value} (h : σ.c b o = some v) : b < σ.n := (σ.wc b o (by simp [h])).1
def AS.up (σ : AS) (j : Nat) : AS := ⟨σ.m, σ.c, σ.n + j, fun g h => by have := σ.wm g h; omega, fun b o h => by have := σ.wc b o h; exact ⟨by omega, this.2⟩⟩
def AS.new (σ : AS) (ob : Ob) : AS := ⟨fun k => if k = σ.n then some ob else σ.m k, σ.c, σ.n + 1, fun g h => by
  split at h
  · omega
  · have := σ.wm g h; omega, fun b o h => by
  have := σ.wc b o h
  refine ⟨by omega, ?_⟩
  rw [if_neg (by omega)]
  exact this.2⟩
def AS.put (σ : AS) (g : Nat) (ob : Ob) : AS := ⟨fun k => if k = g then (σ.m g).map (fun _ => ob) else σ.m k, σ.c, σ.n, fun k h => by
  split at h
  · rename_i e; subst e
    refine σ.wm _ (fun h0 => ?_)
    rw [h0] at h
    exact h rfl
  · exact σ.wm k h, fun b o h => by
  have := σ.wc b o h
  refine ⟨this.1, ?_⟩
  split
  · rename_i e; subst e; rw [this.2]; rfl
  · exact this.2⟩
/-- Block g is forgotten. -/
def AS.del (σ : AS) (g : Nat) : AS := ⟨fun k => if k = g then none else σ.m k, σ.c, σ.n, fun k h => by
  split at h
  · exact absurd rfl h
  · exact σ.wm k h, fun b o h => by
  have := σ.wc b o h
  refine ⟨this.1, ?_⟩
  split
  · rfl
  · exact this.2⟩
theorem del_c : (σ.del g).c = σ.c := rfl
theorem del_n : (σ.del g).n = σ.n := rfl
theorem del_eq : (σ.del g).m g = none := by simp [AS.del]
theorem del_ne (h : k ≠ g) : (σ.del g).m k = σ.m k := by simp [AS.del, h]
theorem up_m : (σ.up j).m = σ.m := rfl
theorem up_c : (σ.up j).c = σ.c := rfl
theorem up_n : (σ.up j).n = σ.n + j := rfl
theorem up_up {i : Nat} : (σ.up i).up j = σ.up (i + j) := by simp [AS.up, Nat.add_assoc]
theorem up_zero : σ.up 0 = σ := rfl
theorem new_c : (σ.new ob).c = σ.c := rfl
theorem new_n : (σ.new ob).n = σ.n + 1 := rfl
theorem new_eq_ : (σ.new ob).m σ.n = some ob := by simp [AS.new]
theorem new_ne (h : k ≠ σ.n) : (σ.new ob).m k = σ.m k := by simp [AS.new, h]
theorem put_c : (σ.put g ob).c = σ.c := rfl
theorem put_n : (σ.put g ob).n = σ.n := rfl
theorem put_eq : (σ.put g ob).m g = (σ.m g).map (fun _ => ob) := by simp [AS.put]
theorem put_ne (h : k ≠ g) : (σ.put g ob).m k = σ.m k := by simp [AS.put, h]

/-- What world w has to do with σ. -/
structure Sat (σ : AS) (w : World) : Prop where
  sz : size w = σ.n
  m : ∀ g ob, σ.m g = some ob → obAt w g ob
  c : ∀ b o v, σ.c b o = some v → w.cell? ⟨b, o, none⟩ = some v
/-- σ' may come after σ. -/
structure Fol (σ σ' : AS) : Prop where
  n : σ.n ≤ σ'.n
  m : ∀ g, σ'.m g ≠ none → σ.m g ≠ none ∨ σ.n ≤ g
theorem Fol.refl (σ : AS) : Fol σ σ := ⟨Nat.le_refl _, fun _ h => .inl h⟩
theorem Fol.trans {a b c : AS} (h : Fol a b) (k : Fol b c) : Fol a c :=
  ⟨Nat.le_trans h.n k.n, fun g hg => by
    rcases k.m g hg with h1 | h1
    · exact h.m g h1
    · exact .inr (Nat.le_trans h.n h1)⟩
theorem Fol.up (σ : AS) (j : Nat) : Fol σ (σ.up j) := ⟨by rw [up_n]; omega, fun _ h => .inl h⟩
theorem Fol.new (σ : AS) (ob : Ob) : Fol σ (σ.new ob) := ⟨by rw [new_n]; omega, fun g h => by
  by_cases e : g = σ.n
  · exact .inr (by omega)
  · rw [new_ne e] at h; exact .inl h⟩
theorem Fol.put (σ : AS) (g : Nat) (ob : Ob) : Fol σ (σ.put g ob) := ⟨Nat.le_refl _, fun k h => .inl (by
  by_cases e : k = g
  · subst e
    rw [put_eq] at h
    exact fun h0 => h (by rw [h0]; rfl)
  · rwa [put_ne e] at h)⟩
end

section
variable {σ : AS} {w : World}
theorem obAt_congr {w w' : World} {g : Nat} {ob : Ob} (h : w'.heap[g]? = w.heap[g]?) (ho : obAt w g ob) : obAt w' g ob := by
  cases ob with
  | cells l => simpa only [obAt, blk, h] using ho
  | other o => exact h.trans ho
  | typed t l => exact h.trans ho
theorem obAt_lt {g : Nat} {ob : Ob} (ho : obAt w g ob) : g < size w := by
  cases ob with
  | cells l => exact blk_lt ho
  | other o => exact (Array.getElem?_eq_some_iff.1 ho).1
  | typed t l => exact (Array.getElem?_eq_some_iff.1 ho).1
theorem Sat.new_ (h : Sat σ w) {o : Obj} {ob : Ob} (ho : ∀ w', w'.heap[σ.n]? = some o → obAt w' σ.n ob) : Sat (σ.new ob) (w.alloc o) := by
  have hz : w.heap.size = σ.n := h.sz
  refine ⟨by show (w.heap.push o).size = _; simp [new_n, hz], ?_, ?_⟩
  · intro g ob' hg
    by_cases e : g = σ.n
    · subst e
      rw [new_eq_] at hg
      injection hg with hg; subst hg
      refine ho _ ?_
      rw [← hz]; exact heap_alloc_new w _
    · rw [new_ne e] at hg
      exact obAt_congr (Below.heap_alloc _ _ _ (by have := σ.lt hg; omega)) (h.m g ob' hg)
  · intro b o' v hv
    rw [new_c] at hv
    rw [World.cell?_of_block (w := w) (a := ⟨b, o', none⟩) (Below.heap_alloc _ _ _ (by have := σ.ltc hv; show b < _; omega))]
    exact h.c b o' v hv
theorem Sat.new (h : Sat σ w) (l : List Value) (t : TypeId) : Sat (σ.new (.cells l)) (new w l t) :=
  h.new_ (fun _ he => blk_of he)
theorem Sat.putO (h : Sat σ w) {g : Nat} {ob0 ob1 : Ob} (hg : σ.m g = some ob0) (l : List Value) (ho : obAt (E.put w g l) g ob1) : Sat (σ.put g ob1) (E.put w g l) := by
  refine ⟨by rw [size_put]; exact h.sz, ?_, ?_⟩
  · intro k ob hk
    by_cases e : k = g
    · subst e
      rw [put_eq, hg] at hk
      injection hk with hk; subst hk
      exact ho
    · rw [put_ne e] at hk
      exact obAt_congr (heap_put_ne e l) (h.m k ob hk)
  · intro b o v hv
    rw [put_c] at hv
    have e : b ≠ g := by
      rintro rfl
      have := (σ.wc b o (by simp [hv])).2
      rw [hg] at this; cases this
    rw [cel_put_ne e]
    exact h.c b o v hv
theorem Sat.put (h : Sat σ w) {g : Nat} {l0 : List Value} (hg : σ.m g = some (.cells l0)) (l : List Value) : Sat (σ.put g (.cells l)) (put w g l) :=
  h.putO hg l (blk_put (obAt_lt (h.m g _ hg)) l)
theorem Sat.putT (h : Sat σ w) {g : Nat} {t : TypeId} {l0 : List Value} (hg : σ.m g = some (.typed t l0)) (l : List Value) : Sat (σ.put g (.typed t l)) (E.put w g l) := by
  have hh : w.heap[g]? = some (.cells l0.toArray t (0, 0)) := h.m g _ hg
  refine h.putO hg l ?_
  have hlt : g < w.heap.size := (Array.getElem?_eq_some_iff.1 hh).1
  have ht : tyOf w g = t := by simp [tyOf, hh]
  show (E.put w g l).heap[g]? = _
  simp only [E.put, Array.getElem?_setIfInBounds, if_true, ht]
  exact if_pos hlt
theorem Sat.blkT (h : Sat σ w) {g : Nat} {t : TypeId} {l : List Value} (hg : σ.m g = some (.typed t l)) : blk w g = some l := by
  have hh : w.heap[g]? = some (.cells l.toArray t (0, 0)) := h.m g _ hg
  exact blk_of hh
/-- A block is forgotten, whatever has become of it. -/
theorem Sat.del {w' : World} (h : Sat σ w) (g : Nat) (hs : size w' = size w) (hh : ∀ k, k ≠ g → w'.heap[k]? = w.heap[k]?) (hm : σ.m g ≠ none) : Sat (σ.del g) w' := by
  refine ⟨hs.trans h.sz, ?_, ?_⟩
  · intro k ob hk
    by_cases e : k = g
    · subst e; rw [del_eq] at hk; cases hk
    · rw [del_ne e] at hk
      exact obAt_congr (hh k e) (h.m k ob hk)
  · intro b o v hv
    rw [del_c] at hv
    have e : b ≠ g := by
      rintro rfl
      exact hm (σ.wc b o (by simp [hv])).2
    rw [World.cell?_of_block (w := w) (a := ⟨b, o, none⟩) (hh b e)]
    exact h.c b o v hv
theorem KeepP.obj_ {S : Nat → Prop} {w : World} {g : Nat} (hg : S g) (o : Obj) : KeepP S w (w.putObj g o) :=
  ⟨rfl, rfl, rfl, by simp [size], fun k hk hn => World.putObj_heap_other (fun e => by subst e; exact hn hg)⟩
/-- Another object is laid into a block. -/
theorem Sat.obj_ (h : Sat σ w) {g : Nat} {ob0 : Ob} (hg : σ.m g = some ob0) (o : Obj) : Sat (σ.put g (.other o)) (w.putObj g o) := by
  have hlt : g < w.heap.size := obAt_lt (h.m g _ hg)
  refine ⟨by simp only [size, World.putObj_size]; exact h.sz, ?_, ?_⟩
  · intro k ob hk
    by_cases e : k = g
    · subst e
      rw [put_eq, hg] at hk
      injection hk with hk; subst hk
      exact World.putObj_heap_same hlt
    · rw [put_ne e] at hk
      exact obAt_congr (World.putObj_heap_other e) (h.m k ob hk)
  · intro b o' v hv
    rw [put_c] at hv
    have e : b ≠ g := by
      rintro rfl
      have := (σ.wc b o' (by simp [hv])).2
      rw [hg] at this; cases this
    rw [World.cell?_of_block (w := w) (a := ⟨b, o', none⟩) (World.putObj_heap_other e)]
    exact h.c b o' v hv
theorem Sat.drewN (h : Sat σ w) (n : Nat) : Sat σ (w.drewN n) := ⟨h.sz, fun g ob hg => obAt_congr (w := w) rfl (h.m g ob hg), h.c⟩

/-- A cell that is known. -/
def AS.ld (σ : AS) (b o : Nat) : Option Value := match σ.m b with | some (.cells l) => l[o]? | some (.other _) => none | some (.typed _ l) => l[o]? | none => σ.c b o
theorem ld_m {b o : Nat} {l : List Value} (h : σ.m b = some (.cells l)) : σ.ld b o = l[o]? := by simp [AS.ld, h]
theorem ld_t {b o : Nat} {t : TypeId} {l : List Value} (h : σ.m b = some (.typed t l)) : σ.ld b o = l[o]? := by simp [AS.ld, h]
theorem ld_c {b o : Nat} {v : Value} (h : σ.c b o = some v) : σ.ld b o = some v := by
  have := (σ.wc b o (by simp [h])).2
  simp [AS.ld, this, h]
theorem Sat.ld (h : Sat σ w) {b o : Nat} {v : Value} (hv : σ.ld b o = some v) : w.cell? ⟨b, o, none⟩ = some v := by
  unfold AS.ld at hv
  split at hv
  · rename_i l hl
    rw [cel (h.m b _ hl)]; exact hv
  · cases hv
  · rename_i t l hl
    rw [cel (h.blkT hl)]; exact hv
  · exact h.c b o v hv
def ldS (σ : AS) : Value → Option Value
  | .pointer (some a) => if a.spot = none then σ.ld a.block a.off else none
  | _ => none
def ldsS (σ : AS) (b o : Nat) : Nat → Option (List Value)
  | 0 => some []
  | n + 1 => (σ.ld b o).bind fun v => (ldsS σ b (o + 1) n).map (v :: ·)
def ldNS (σ : AS) (n : Nat) : Value → Option Value
  | .pointer (some a) => if a.spot = none then (ldsS σ a.block a.off n).map fun l => .agg l.toArray else none
  | _ => none
/-- A store of all cells of a value. -/
def stS (σ : AS) (n : Nat) : Value → Value → Option AS
  | .pointer (some a), v =>
    match σ.m a.block with
    | some (.cells l) => if a.spot = none ∧ (cellsV v).length = n ∧ a.off + n ≤ l.length ∧ (cellsV v).all okCell then some (σ.put a.block (.cells (l.take a.off ++ cellsV v ++ l.drop (a.off + n)))) else none
    | some (.typed t l) => if a.spot = none ∧ (cellsV v).length = n ∧ a.off + n ≤ l.length ∧ (cellsV v).all okCell then some (σ.put a.block (.typed t (l.take a.off ++ cellsV v ++ l.drop (a.off + n)))) else none
    | _ => none
  | _, _ => none
theorem addE (a : Addr) (h : a.spot = none) (i : Nat) : a.add i = ⟨a.block, a.off + i, none⟩ := by
  unfold Addr.add
  cases a
  subst h
  split
  · rename_i h; subst h; rfl
  · rfl
theorem Sat.lds (h : Sat σ w) {a : Addr} (ha : a.spot = none) : ∀ {n i : Nat} {l : List Value}, ldsS σ a.block (a.off + i) n = some l → ldsV w a i n = some l
  | 0, i, l, hl => hl
  | n + 1, i, l, hl => by
    simp only [ldsS, Option.bind_eq_some_iff, Option.map_eq_some_iff] at hl
    obtain ⟨v, hv, r, hr, rfl⟩ := hl
    simp only [ldsV, addE a ha, h.ld hv, Option.bind_some, h.lds ha (i := i + 1) hr, Option.map_some]
theorem Sat.ldS (h : Sat σ w) {x v : Value} (hv : ldS σ x = some v) : ldV w x = some v := by
  unfold E.ldS at hv
  split at hv
  · split at hv
    · rename_i a ha
      have := h.ld hv
      rw [← this]; cases a; cases ha; rfl
    · cases hv
  · cases hv
theorem Sat.ldN (h : Sat σ w) {x v : Value} {n : Nat} (hv : ldNS σ n x = some v) : ldNV w n x = some v := by
  unfold ldNS at hv
  split at hv
  · split at hv
    · rename_i a ha
      simp only [Option.map_eq_some_iff] at hv
      obtain ⟨l, hl, rfl⟩ := hv
      simp only [ldNV, h.lds ha (i := 0) hl, Option.map_some]
    · cases hv
  · cases hv
theorem Sat.stS (h : Sat σ w) {x v : Value} {n : Nat} {σ' : AS} (hv : stS σ n x v = some σ') : ∃ w', stV w n x v = some w' ∧ Sat σ' w' ∧ KeepP σ.live w w' ∧ Fol σ σ' := by
  unfold E.stS at hv
  split at hv
  · rename_i a
    split at hv
    · rename_i l hl
      split at hv
      · rename_i hc
        injection hv with hv; subst hv
        have hb : blk w a.block = some l := h.m _ _ hl
        refine ⟨_, ?_, h.put hl _, KeepP.put_ (by unfold AS.live; rw [hl]; simp) _, Fol.put _ _ _⟩
        simp only [stV, hb, Option.bind_some, if_pos hc]
      · cases hv
    · rename_i t l hl
      split at hv
      · rename_i hc
        injection hv with hv; subst hv
        have hb : blk w a.block = some l := h.blkT hl
        refine ⟨_, ?_, h.putT hl _, KeepP.put_ (by unfold AS.live; rw [hl]; simp) _, Fol.put _ _ _⟩
        simp only [stV, hb, Option.bind_some, if_pos hc]
      · cases hv
    · cases hv
  · cases hv
end

/-- What is asked in every world that σ fits. -/
def Lf (X : World → (Value → World → Prop) → Prop) (σ : AS) (k : Value → AS → Prop) : Prop :=
  ∀ w, Sat σ w → X w fun v w' => KeepP σ.live w w' ∧ ∃ σ', Sat σ' w' ∧ Fol σ σ' ∧ k v σ'
end Go.Proofs.YtmgdkoidgoihfaaGreatDoor.E
