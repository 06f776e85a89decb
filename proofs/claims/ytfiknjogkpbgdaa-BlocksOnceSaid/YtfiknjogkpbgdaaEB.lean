/- What a call leaves as it was. Conditions: none. -/
import Derived.Test.YtfiknjogkpbgdaaEA
namespace Go.Proofs.Ytfiknjogkpbgdaa.E
open Go.RowKit

/-- Of what was there in w, only the blocks in S may have turned in w'. -/
structure Keep (S : List Nat) (w w' : World) : Prop where
  os : w'.os = w.os
  tape : w'.tape = w.tape
  output : w'.output = w.output
  sz : size w ≤ size w'
  heap : ∀ k, k < size w → k ∉ S → w'.heap[k]? = w.heap[k]?

section
variable {S S' : List Nat} {a w w' w'' : World}
theorem Keep.refl (S : List Nat) (w : World) : Keep S w w := ⟨rfl, rfl, rfl, Nat.le_refl _, fun _ _ _ => rfl⟩
theorem Keep.trans (h : Keep S w w') (k : Keep S w' w'') : Keep S w w'' :=
  ⟨k.os.trans h.os, k.tape.trans h.tape, k.output.trans h.output, Nat.le_trans h.sz k.sz, fun i hi hn => (k.heap i (Nat.lt_of_lt_of_le hi h.sz) hn).trans (h.heap i hi hn)⟩
/-- A call that turned only what is in S, or what is new since a. -/
theorem Keep.step {T : List Nat} (h : Keep S a w) (k : Keep T w w') (ht : ∀ i, i ∈ T → i ∈ S ∨ size a ≤ i) : Keep S a w' :=
  ⟨k.os.trans h.os, k.tape.trans h.tape, k.output.trans h.output, Nat.le_trans h.sz k.sz, fun i hi hn => (k.heap i (Nat.lt_of_lt_of_le hi h.sz) (fun hT => by
    rcases ht i hT with h1 | h1
    · exact hn h1
    · omega)).trans (h.heap i hi hn)⟩
theorem Keep.then (h : Keep S a w) (k : Keep [] w w') : Keep S a w' := h.step k (fun i hi => by cases hi)
theorem Keep.mono (h : Keep S w w') (hs : ∀ k, k ∈ S → k ∈ S') : Keep S' w w' := ⟨h.os, h.tape, h.output, h.sz, fun k hk hn => h.heap k hk (fun hs' => hn (hs k hs'))⟩
theorem Keep.wide (h : Keep [] w w') (S : List Nat) : Keep S w w' := h.mono (fun k hk => by cases hk)
theorem Keep.new_ (h : Keep S a w) (l : List Value) (t : TypeId) : Keep S a (new w l t) :=
  h.trans ⟨rfl, rfl, rfl, by rw [size_new]; omega, fun k hk _ => Below.heap_alloc _ _ _ hk⟩
theorem Keep.alloc (h : Keep S a w) (o : Obj) : Keep S a (w.alloc o) :=
  h.trans ⟨rfl, rfl, rfl, by simp [size], fun k hk _ => Below.heap_alloc _ _ _ hk⟩
theorem Keep.put_ (h : Keep S a w) {g : Nat} (hg : g ∈ S ∨ size a ≤ g) (l : List Value) : Keep S a (put w g l) :=
  ⟨h.os, h.tape, h.output, by rw [size_put]; exact h.sz, fun k hk hn => (heap_put_ne (fun e => by
    subst e
    rcases hg with h1 | h1
    · exact hn h1
    · omega) l).trans (h.heap k hk hn)⟩
theorem Keep.drewN (h : Keep S a w) (n : Nat) : Keep S a (w.drewN n) := ⟨h.os, h.tape, h.output, h.sz, h.heap⟩
theorem Keep.drew (h : Keep S a w) : Keep S a w.drew := ⟨h.os, h.tape, h.output, h.sz, h.heap⟩
theorem Keep.blk (h : Keep S w w') {k : Nat} (hk : k < size w) (hn : k ∉ S) : blk w' k = blk w k := by
  simp only [E.blk, h.heap k hk hn]
theorem Keep.cel (h : Keep S w w') {p : Addr} (hk : p.block < size w) (hn : p.block ∉ S) : w'.cell? p = w.cell? p := World.cell?_of_block (w := w) (h.heap p.block hk hn)
theorem Keep.blk0 (h : Keep [] w w') {k : Nat} (hk : k < size w) : E.blk w' k = E.blk w k := h.blk hk (by simp)
theorem Keep.cel0 (h : Keep [] w w') (b o : Nat) (hk : b < size w) : w'.cell? ⟨b, o, none⟩ = w.cell? ⟨b, o, none⟩ := h.cel hk (by simp)
theorem Keep.below (h : Keep [] w w') : Below w.heap.size w w' := ⟨h.os, h.tape, h.output, h.sz, fun k hk => h.heap k hk (by simp)⟩
theorem Keep.of_below (h : Below w.heap.size w w') : Keep [] w w' := ⟨h.os, h.tape, h.output, h.size, fun k hk _ => h.block k hk⟩
theorem blk_drewN (w : World) (n g : Nat) : E.blk (w.drewN n) g = E.blk w g := rfl
theorem cel_drewN (w : World) (n : Nat) (p : Addr) : (w.drewN n).cell? p = w.cell? p := rfl
theorem size_drewN (w : World) (n : Nat) : size (w.drewN n) = size w := rfl
theorem blk_drew (w : World) (g : Nat) : E.blk w.drew g = E.blk w g := rfl
theorem cel_drew (w : World) (p : Addr) : w.drew.cell? p = w.cell? p := rfl
theorem size_drew (w : World) : size w.drew = size w := rfl
end
theorem memR : T @size_drewN ∧ T @blk_drewN ∧ T @cel_drewN ∧ T @size_drew ∧ T @blk_drew ∧ T @cel_drew := ⟨@size_drewN, @blk_drewN, @cel_drewN, @size_drew, @blk_drew, @cel_drew⟩
theorem sizeR : T @size_put ∧ T @size_new ∧ T @size_drewN ∧ T @size_drew := ⟨@size_put, @size_new, @size_drewN, @size_drew⟩
theorem cvb_by {P : Program} {w : World} {d : Option Nat} {r : List St} {Q : Post} {ρ : Env} {a : Addr} {n c : Nat} {l : List UInt8} (hn : l.length = n) (hl : ldsV w a 0 n = some (l.map fun b => .int .u8 b.toNat)) (h : vcL P r Q (upd ρ d (.string (bs l))) w) :
    goCvb P (.slice (some a) n c) d r Q ρ w := ⟨l, hn, hl, h⟩
theorem mks_by {P : Program} {w : World} {d : Option Nat} {r : List St} {Q : Post} {ρ : Env} {e : TypeId} {sz bytes : Nat} {z : List Value} {kd kd' : IntKind} {a b : Int} (h0 : 0 ≤ a) (h1 : a ≤ b) (h2 : b ≤ 9223372036854775807) (h3 : bytes * b ≤ 281474976710656) (h4 : z.length = sz) (h5 : 0 < sz)
    (h : vcL P r Q (upd ρ d (.slice (some ⟨size w, 0, none⟩) a.toNat b.toNat)) (new w ((List.replicate b.toNat z).flatten) e)) : goMks P e sz bytes z (.int kd a) (.int kd' b) d r Q ρ w := ⟨h0, h1, h2, h3, h4, h5, h⟩
end Go.Proofs.Ytfiknjogkpbgdaa.E
