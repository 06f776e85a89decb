/- Slices that came in as arguments. Conditions: as each theorem says. -/
import Derived.Test.YtfiknjogkpbgdaaEC
namespace Go.Proofs.Ytfiknjogkpbgdaa
open Go.RowKit E

/-- What is known of a slice of integers that came in: it is nil; or it leads to a row of cap cells, the numbers zs, each fitting its kind. -/
def IsRow (k : IntKind) (w : World) (a : Option Addr) (len cap : Nat) (zs : List Int) : Prop :=
  (a = none ∧ len = 0 ∧ cap = 0 ∧ zs = []) ∨
  ∃ x, a = some x ∧ len ≤ cap ∧ cap ≤ maxLen ∧ zs.length = cap ∧ (∀ i, i < zs.length → w.cell? (x.add i) = some (.int k (zs.getD i 0))) ∧ ∀ n ∈ zs, (Lit.int k n).wf = true

/-- n elements of sz cells each, element i's cells are f i: where there is an element at all. -/
def Arr (w : World) (a : Option Addr) (n sz : Nat) (f : Nat → List Value) : Prop :=
  n = 0 ∨ ∃ b o, a = some ⟨b, o, none⟩ ∧ b < E.size w ∧ ∀ i, i < n → ∀ j v, (f i)[j]? = some v → w.cell? ⟨b, o + i * sz + j, none⟩ = some v

section
variable {w w' : World} {a : Option Addr} {n sz : Nat} {f : Nat → List Value}
theorem Arr.keep (h : Arr w a n sz f) (k : Keep [] w w') : Arr w' a n sz f := by
  rcases h with h | ⟨b, o, ha, hb, hc⟩
  · exact .inl h
  · exact .inr ⟨b, o, ha, Nat.lt_of_lt_of_le hb k.sz, fun i hi j v hv => (k.cel0 b _ hb).trans (hc i hi j v hv)⟩
theorem Arr.at_ (h : Arr w a n sz f) (hn : 0 < n) : ∃ b o, a = some ⟨b, o, none⟩ ∧ b < E.size w ∧ ∀ i, i < n → ∀ j v, (f i)[j]? = some v → w.cell? ⟨b, o + i * sz + j, none⟩ = some v := by
  rcases h with h | h
  · omega
  · exact h
theorem IsRow.arr {k : IntKind} {len cap : Nat} {zs : List Int} (h : IsRow k w a len cap zs) : Arr w a len 1 (fun i => [.int k (zs.getD i 0)]) ∧ len ≤ cap ∧ cap ≤ maxLen ∧ len ≤ zs.length ∧ ∀ n ∈ zs, (Lit.int k n).wf = true := by
  rcases h with ⟨rfl, rfl, rfl, rfl⟩ | ⟨x, rfl, hl, hc, hz, hcell, hwf⟩
  · exact ⟨.inl rfl, Nat.le_refl _, Nat.zero_le _, Nat.zero_le _, by simp⟩
  · refine ⟨?_, hl, hc, by omega, hwf⟩
    rcases Nat.eq_zero_or_pos len with h0 | h0
    · exact .inl h0
    · have h1 := hcell 0 (by omega)
      have hx : x.add 0 = x := by unfold Addr.add; simp
      rw [hx] at h1
      have hsp : x.spot = none := by
        cases hs : x.spot with
        | none => rfl
        | some s =>
          unfold World.cell? at h1
          rw [hs] at h1
          split at h1 <;> simp at h1
      have hxe : x = ⟨x.block, x.off, none⟩ := by cases x; simp_all
      refine .inr ⟨x.block, x.off, by rw [← hxe], block_lt_of_cell h1, ?_⟩
      intro i hi j v hv
      have hj : j = 0 := by
        have := (List.getElem?_eq_some_iff.1 hv).1
        simpa using this
      subst hj
      simp at hv
      subst hv
      have := hcell i (by omega)
      rw [hxe, add_eq] at this
      simpa using this
end
theorem wf_i64 {n : Int} (h : (Lit.int .i64 n).wf = true) : -9223372036854775808 ≤ n ∧ n ≤ 9223372036854775807 := by
  simp [Lit.wf, IntKind.min, IntKind.max, IntKind.signed, IntKind.bits] at h
  omega
end Go.Proofs.Ytfiknjogkpbgdaa
