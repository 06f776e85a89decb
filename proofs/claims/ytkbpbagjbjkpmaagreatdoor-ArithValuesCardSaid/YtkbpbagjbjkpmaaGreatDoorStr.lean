/- A range over a string; a rune as a string. Conditions: as each theorem says. -/
import Derived.Test.YtkbpbagjbjkpmaaGreatDoorRng
import Derived.Lib.OthersKept
import Derived.Laws.RangeAny
import Derived.Laws.Runes
import Derived.Lib.Bytealg
import Derived.Lib.IndexBytes
namespace Go.Proofs.YtkbpbagjbjkpmaaGreatDoor.E
open Go.RowKit Go.Lib
set_option linter.unusedVariables false
set_option linter.unusedSimpArgs false

section
variable {P : Program} {K : Value → AS → Prop} {σ : AS} {X : Ce} {R : List Ck} {t u : TypeId} {q pos : Nat} {s : List UInt8}
theorem rngS_by (ht : P.underlying t = some .string) (h : Hs σ X R) (hk : ∀ σ', Hs σ' X (Oth σ.n (.stringIter (bs s) 0) :: R) → K (.pointer (some ⟨σ.n, 0, none⟩)) σ') : kGen P (.rng t) [.string (bs s)] σ K := by
  intro w hw
  have hs := hw.new_ (o := .stringIter (bs s) 0) (ob := .other (.stringIter (bs s) 0)) (fun _ he => he)
  have hz : w.heap.size = σ.n := hw.sz
  refine ⟨_, _, run_range_string w t (bs s) ht, ?_⟩
  rw [hz]
  exact ⟨KeepP.alloc _ _ _, _, hs, Fol.new _ _, hk _ h.newX⟩
theorem nxtS_by {ty : TypeId} (h : Hs σ X (Oth q (.stringIter (bs s) pos) :: R)) (hdone : s.length ≤ pos → K (.tuple #[.bool false]) σ)
    (hnext : ∀ (r : Int) (pos' : Nat) σ', pos < s.length → pos < pos' → 0 ≤ r → r ≤ 2147483647 → Hs σ' X (Oth q (.stringIter (bs s) pos') :: R) → K (.tuple #[.bool true, .int .i64 pos, .int .i32 r]) σ') :
    kGen P (.nxt true ty) [.pointer (some ⟨q, 0, none⟩)] σ K := by
  have hm := h.oth
  intro w hw
  have hh : w.heap[q]? = some (.stringIter (bs s) pos) := hw.m q _ hm
  have hsz : (bs s).size = s.length := bs_size s
  by_cases hp : pos < (bs s).size
  · refine ⟨_, _, run_next_any_at w q (bs s) pos ty hh hp, ?_⟩
    have h1 : 1 ≤ (Utf8.decode (bs s) pos).2 := by
      by_cases ha : ((bs s)[pos]'hp).toNat < 128
      · rw [decode_ascii _ _ hp ha]; exact Nat.le_refl _
      · exact (decode_high _ _ hp (by omega)).2
    refine out_set hw hm (hnext _ (pos + (Utf8.decode (bs s) pos).2) _ (by omega) (by omega) (by omega) (by have := decode_le (bs s) pos; omega) ?_)
    exact h.putX
  · exact ⟨_, _, run_next_end_at w q (bs s) pos ty hh hp, Out.same hw (hdone (by omega))⟩
/-- A rune as a string. -/
theorem cvr_by {r : Int} (hs : (P.underlying t).isSome = true) (hd : P.underlying u = some .string) (hv : Utf8.valid r = true) (h128 : 128 ≤ r)
    (hk : ∀ l : List UInt8, 2 ≤ l.length → l.length ≤ 4 → (∀ b, l[l.length - 1]? = some b → 128 ≤ b.toNat) → K (.string (bs l)) σ) : kGen P (.cv t u) [.int .i32 r] σ K := by
  intro w hw
  refine ⟨_, w, run_convert_int_string w t u .i32 r hs hd, Out.same hw ?_⟩
  obtain ⟨h1, h2, h3⟩ := encode_facts r hv h128
  have e : Utf8.encode r = bs (Utf8.encode r).data.toList := by simp [bs]
  have el : (Utf8.encode r).size = (Utf8.encode r).data.toList.length := by simp
  have := hk (Utf8.encode r).data.toList (by omega) (by omega) (fun b hb => by
    have h4 := h3 (by omega)
    have e5 : (Utf8.encode r)[(Utf8.encode r).size - 1]'(by omega) = b := by
      rw [← el] at hb
      have := Go.Lib.data_getElem? (Utf8.encode r) ((Utf8.encode r).size - 1) (by omega)
      rw [this] at hb
      exact Option.some.inj hb
    rw [e5] at h4
    exact h4)
  rw [← e] at this
  exact this
end
end Go.Proofs.YtkbpbagjbjkpmaaGreatDoor.E
