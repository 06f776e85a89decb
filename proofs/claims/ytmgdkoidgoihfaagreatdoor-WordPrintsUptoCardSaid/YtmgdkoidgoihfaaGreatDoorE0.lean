/- A calculus of the model's code over slots as a function: resolved instructions, what each asks, and that this is sound. Conditions: none. -/
import Derived.WalkKit
import Derived.WalkLawsBesides
import Derived.WalkSpells
namespace Go.Proofs.YtmgdkoidgoihfaaGreatDoor.E
open Go.RowKit

abbrev Env := Nat → Value
def emp : Env := fun _ => undef
def up (ρ : Env) (t : Nat) (v : Value) : Env := fun i => if i = t then v else ρ i
theorem up_at (ρ : Env) (t i : Nat) (v : Value) : up ρ t v i = if i = t then v else ρ i := rfl
def upd (ρ : Env) : Option Nat → Value → Env
  | some d, v => up ρ d v
  | none, _ => ρ
theorem upd_some (ρ : Env) (d : Nat) (v : Value) : upd ρ (some d) v = up ρ d v := rfl
theorem upd_none (ρ : Env) (v : Value) : upd ρ none v = ρ := rfl

/-- What is put off till the function's end, and the marks of ranges over functions: as a value, in the slot behind the last. -/
def dfr1 : Value → Deferred
  | .func fn first cap => { target := .fn fn cap, args := first }
  | .int _ n => { target := .collected n.toNat, args := #[] }
  | _ => { target := .nil, args := #[] }
def dfrs : Value → List Deferred
  | .tuple vs => vs.toList.map dfr1
  | _ => []
def act (N : Nat) (ρ : Env) : Act := { tmps := (Array.range N).map ρ, defers := dfrs (ρ N) }
theorem act_put (N : Nat) (ρ : Env) (d : Option Nat) (v : Value) (hd : d ≠ some N) : (act N ρ).put d v = act N (upd ρ d v) := by
  cases d with
  | none => rfl
  | some d =>
    have hn : ¬ N = d := fun e => hd (by rw [e])
    simp only [Act.put, act, upd]
    rw [show up ρ d v N = ρ N from by simp [up, hn]]
    congr 1
    apply Array.ext_getElem?
    intro i
    rw [Array.getElem?_setIfInBounds]
    simp only [Array.getElem?_map, Array.getElem?_range, Array.size_map, Array.size_range]
    by_cases h : d = i
    · subst h
      by_cases hd : d < N <;> simp [hd, up]
    · rw [if_neg h]
      by_cases hd : i < N <;> simp [hd, up, Ne.symm h]

theorem act_get (N : Nat) (ρ : Env) (t : Nat) (h : t < N) : (act N ρ).tmps.getD t undef = ρ t := by
  simp [act, h]

inductive Arg where
  | t (n : Nat)
  | v (x : Value)
def Arg.ev (ρ : Env) : Arg → Value
  | .t n => ρ n
  | .v x => x
theorem ev_t (ρ : Env) (n : Nat) : (Arg.t n).ev ρ = ρ n := rfl
theorem ev_v (ρ : Env) (x : Value) : (Arg.v x).ev ρ = x := rfl

def trA (N : Nat) : Operand → Option Arg
  | .tmp t => if t < N then some (.t t) else none
  | .const x => some (.v x)
  | .global g => some (.v (.pointer (some ⟨g, 0, none⟩)))
  | .func f => some (.v (.func (.func f) #[] #[]))
theorem trA_ev {N : Nat} {ρ : Env} {x : Operand} {a : Arg} (h : trA N x = some a) : (act N ρ).eval x = a.ev ρ := by
  cases x with
  | tmp t =>
    simp only [trA] at h
    split at h
    · rename_i ht
      injection h with h; subst h
      simp only [Act.eval, Arg.ev]
      exact act_get N ρ t ht
    · cases h
  | const v => injection h with h; subst h; rfl
  | global g => injection h with h; subst h; rfl
  | func f => injection h with h; subst h; rfl

/-! ### The heap, block by block -/
def blk (w : World) (g : Nat) : Option (List Value) :=
  match w.heap[g]? with
  | some (.cells c _ (0, 0)) => some c.toList
  | _ => none
def tyOf (w : World) (g : Nat) : TypeId := match w.heap[g]? with | some (.cells _ t _) => t | _ => 0
def put (w : World) (g : Nat) (l : List Value) : World := { w with heap := w.heap.setIfInBounds g (.cells l.toArray (tyOf w g) (0, 0)) }
def size (w : World) : Nat := w.heap.size
def new (w : World) (l : List Value) (t : TypeId) : World := w.alloc (.cells l.toArray t)

section
variable {w : World} {g h : Nat} {l l' : List Value}
theorem blk_some (hb : blk w g = some l) : ∃ t, w.heap[g]? = some (.cells l.toArray t (0, 0)) := by
  unfold blk at hb
  split at hb
  · rename_i c t heq
    injection hb with hb; subst hb
    exact ⟨t, by simpa using heq⟩
  · cases hb
theorem blk_of {t : TypeId} (hb : w.heap[g]? = some (.cells l.toArray t (0, 0))) : blk w g = some l := by
  simp [blk, hb]
theorem blk_lt (hb : blk w g = some l) : g < size w := by
  obtain ⟨t, ht⟩ := blk_some hb
  exact (Array.getElem?_eq_some_iff.1 ht).1
theorem size_put (w : World) (g : Nat) (l : List Value) : size (put w g l) = size w := by simp [size, put]
theorem size_new (w : World) (l : List Value) (t : TypeId) : size (new w l t) = size w + 1 := by simp [size, new]
theorem put_row (hb : blk w g = some l) (l' : List Value) : w.setRow g l'.toArray = put w g l' := by
  obtain ⟨t, ht⟩ := blk_some hb
  have hlt := blk_lt hb
  unfold World.setRow put
  congr 1
  apply Array.ext_getElem?
  intro i
  rw [Array.getElem?_setIfInBounds, Array.getElem?_modify]
  by_cases h : g = i
  · subst h
    have hh : g < w.heap.size := hlt
    simp only [tyOf, ht, if_true, if_pos hh, Option.map_some]
  · rw [if_neg h, if_neg h]
theorem blk_put (hg : g < size w) (l' : List Value) : blk (put w g l') g = some l' := by
  have : (put w g l').heap[g]? = some (.cells l'.toArray (tyOf w g) (0, 0)) := by
    simp only [put, Array.getElem?_setIfInBounds, if_true]
    exact if_pos hg
  exact blk_of this
theorem heap_put_ne (hn : h ≠ g) (l' : List Value) : (put w g l').heap[h]? = w.heap[h]? := by
  simp only [put, Array.getElem?_setIfInBounds]
  rw [if_neg (Ne.symm hn)]
theorem blk_put_ne (hn : h ≠ g) (l' : List Value) : blk (put w g l') h = blk w h := by
  simp only [blk, heap_put_ne hn]
theorem cel (hb : blk w g = some l) (o : Nat) : w.cell? ⟨g, o, none⟩ = l[o]? := by
  obtain ⟨t, ht⟩ := blk_some hb
  rw [cell_of_row w g o _ t (0, 0) ht]; simp
theorem fro (hb : blk w g = some l) (o : Nat) (sp : Option Nat) : w.frozen? ⟨g, o, sp⟩ = false := by
  obtain ⟨t, ht⟩ := blk_some hb
  simp [World.frozen?, ht]
theorem cel_put (hg : g < size w) (l' : List Value) (o : Nat) : (put w g l').cell? ⟨g, o, none⟩ = l'[o]? := cel (blk_put hg l') o
theorem cel_put_ne (hn : h ≠ g) (l' : List Value) (o : Nat) : (put w g l').cell? ⟨h, o, none⟩ = w.cell? ⟨h, o, none⟩ := by
  simp only [World.cell?, heap_put_ne hn]
theorem cel_new (w : World) (l : List Value) (t : TypeId) (o : Nat) : (new w l t).cell? ⟨size w, o, none⟩ = l[o]? :=
  cel (blk_of (t := t) (heap_alloc_new w _)) o
theorem cel_new_ne (hn : h ≠ size w) (t : TypeId) (o : Nat) : (new w l t).cell? ⟨h, o, none⟩ = w.cell? ⟨h, o, none⟩ := by
  have : (new w l t).heap[h]? = w.heap[h]? := by
    show (w.heap.push _)[h]? = _
    rw [Array.getElem?_push]; exact if_neg hn
  simp only [World.cell?, this]
theorem blk_new (w : World) (l : List Value) (t : TypeId) : blk (new w l t) (size w) = some l :=
  blk_of (t := t) (heap_alloc_new w _)
theorem blk_new_ne (hn : h ≠ size w) (t : TypeId) : blk (new w l t) h = blk w h := by
  have : (new w l t).heap[h]? = w.heap[h]? := by
    show (w.heap.push _)[h]? = _
    rw [Array.getElem?_push]; exact if_neg hn
  simp only [blk, this]
end

/-- A pure value, or nothing: what comes behind it. -/
def seqO {α : Type} (o : Option α) (k : α → Prop) : Prop := match o with | some v => k v | none => False
theorem seqO_some {α : Type} (v : α) (k : α → Prop) : seqO (some v) k = k v := rfl
@[congr] theorem seqO_congr {α : Type} {o o' : Option α} {k : α → Prop} (h : o = o') : seqO o k = seqO o' k := by rw [h]
theorem seqO_mono {α : Type} {o : Option α} {k k' : α → Prop} (h : ∀ v, k v → k' v) (hh : seqO o k) : seqO o k' := by
  cases o with
  | none => exact hh
  | some v => exact h v hh
theorem seqO_ex {α : Type} {o : Option α} {k : α → Prop} (h : seqO o k) : ∃ v, o = some v ∧ k v := by
  cases o with
  | none => exact h.elim
  | some v => exact ⟨v, rfl, h⟩

/-! ### Values -/
/-- A string of these bytes. -/
def bs (l : List UInt8) : ByteArray := ⟨l.toArray⟩
theorem bs_size (l : List UInt8) : (bs l).size = l.length := by simp [bs, ByteArray.size]
theorem bs_data (l : List UInt8) : (bs l).data = l.toArray := rfl
theorem bs_append (a b : List UInt8) : bs a ++ bs b = bs (a ++ b) := by
  apply ByteArray.ext; simp [bs]
theorem bs_toList (l : List UInt8) : (bs l).toList = l := by
  rw [ByteArray.toList_eq]
  simp [bs]
theorem bs_of (s : ByteArray) : s = bs s.data.toList := by simp [bs]
theorem bs_inj {a b : List UInt8} (h : bs a = bs b) : a = b := by
  have := congrArg (fun x => x.data.toList) h
  simpa [bs] using this
theorem bs_extract (l : List UInt8) (a b : Nat) : (bs l).extract a b = bs ((l.drop a).take (b - a)) := by
  apply ByteArray.ext
  simp [bs, ByteArray.data_extract, List.extract_eq_take_drop]
end Go.Proofs.YtmgdkoidgoihfaaGreatDoor.E
