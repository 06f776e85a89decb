/- Variables: what is set is kept. Conditions: none. -/
import Derived.Test.YtpnefcapiiemdaaGreatDoorVaO
namespace Go.Proofs.YtpnefcapiiemdaaGreatDoor
open E Go.Lib
set_option linter.unusedVariables false
set_option linter.unusedSimpArgs false
set_option maxHeartbeats 1000000
set_option maxRecDepth 20000
abbrev s0 : VM := ⟨[], 0, []⟩
/-- How much there is after j calls. -/
structure InvV (S : VM) (j : Nat) : Prop where
  len : S.l.length ≤ j
  ar : S.ar.length ≤ 20
  ok : ∀ n x, lkV S.l n = some x → n.length ≤ 200 ∧ x.val.length ≤ 200
section
variable {S : VM} {n m val : Str} {w : Bool} {x' : VV} {o : OpV} {i : Int} {j : Nat} {l : VL}
theorem InvV.start : InvV s0 0 := ⟨Nat.le_refl _, by decide, fun n x h => by cases h⟩
theorem ins_len : (insV l n x').length ≤ l.length + 1 := by
  unfold insV; split <;> simp
theorem del_len : (delV l n).length ≤ l.length := by unfold delV; exact List.length_filter_le _ _
theorem InvV.more (h : InvV S j) : InvV S (j + 1) := ⟨by have := h.len; omega, h.ar, h.ok⟩
theorem InvV.getv (h : InvV S j) (n : Str) : (getV S.l n).val.length ≤ 200 := by
  unfold getV
  cases hx : lkV S.l n with
  | none => simp
  | some x => exact (h.ok n x hx).2
theorem InvV.turn (h : InvV S j) (hn : n.length ≤ 200) (hx : x'.val.length ≤ 200) : InvV (turnE S n w x').2 (j + 1) := by
  unfold turnE
  split
  · exact h.more
  split
  · exact h.more
  · refine ⟨?_, h.ar, ?_⟩
    · show (turnV S.l n x').length ≤ _
      have := h.len
      unfold turnV
      split
      · have := ins_len (l := S.l) (n := n) (x' := x'); omega
      · have := del_len (l := S.l) (n := n); omega
    · intro a x hax
      have hax : lkV (turnV S.l n x') a = some x := hax
      unfold turnV at hax
      split at hax
      · rw [lk_ins] at hax
        split at hax
        · rename_i e; cases hax; rw [e]; exact ⟨hn, hx⟩
        · exact h.ok a x hax
      · rw [lk_del] at hax
        split at hax
        · cases hax
        · exact h.ok a x hax
theorem InvV.step (h : InvV S j) (h1 : o.2.1.length ≤ 200) (h2 : o.2.2.1.length ≤ 200) (h3 : TextsP o.2.2.2.2) : InvV (doV o S).2 (j + 1) := by
  unfold doV
  split
  · exact h.turn h1 (by simp)
  split
  · exact h.turn h1 (h.getv _)
  split
  · exact h.turn h1 (h.getv _)
  split
  · exact ⟨by have := h.len; show S.l.length ≤ _; omega, h3.1, h.ok⟩
  split
  · unfold shiftV
    split
    · exact h.more
    · exact ⟨by have := h.len; show S.l.length ≤ _; omega, by show (S.ar.drop _).length ≤ _; rw [List.length_drop]; have := h.ar; omega, h.ok⟩
  split
  · exact ⟨by have := h.len; show S.l.length ≤ _; omega, h.ar, h.ok⟩
  · exact h.turn h1 h2
theorem lk_mem (h : n ∈ l.map (·.1)) : ∃ x, lkV l n = some x := by
  obtain ⟨p, hp, rfl⟩ := List.mem_map.1 h
  unfold lkV
  cases hf : l.find? fun q => decide (q.1 = p.1) with
  | none => rw [List.find?_eq_none] at hf; have := hf p hp; simp at this
  | some q => exact ⟨q.2, rfl⟩
theorem InvV.vl (h : InvV S j) : VlOk S.l := by
  intro n hn
  obtain ⟨x, hx⟩ := lk_mem hn
  have h1 := (h.ok n x hx).1
  have h2 := h.getv n
  exact ⟨by show n.length ≤ maxLen; unfold maxLen; omega, by show (getV S.l n).val.length ≤ maxLen; unfold maxLen; omega⟩
theorem InvV.all (h : InvV S j) : ∀ p, p ∈ allV S.l → FvOk p := by
  intro p hp
  unfold allV listV at hp
  obtain ⟨n, hn, rfl⟩ := List.mem_map.1 hp
  exact h.vl n ((List.mergeSort_perm _ _).mem_iff.1 hn)
theorem all_len : (allV l).length = l.length := by simp [allV, listV, sortS]
end
end Go.Proofs.YtpnefcapiiemdaaGreatDoor
