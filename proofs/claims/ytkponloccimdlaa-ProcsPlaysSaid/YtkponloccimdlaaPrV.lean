/- Processes as the document's answer has them: Exit. Conditions: as each theorem says. -/
import Derived.Test.YtkponloccimdlaaPrY
namespace Go.Proofs.Ytkponloccimdlaa
open E Go.Lib PT
set_option linter.unusedVariables false
set_option linter.unusedSimpArgs false
set_option maxHeartbeats 1000000
set_option maxRecDepth 20000

/-- 1 .. n, the last one first. -/
def visN : Nat → List Int
  | 0 => []
  | n + 1 => ((n : Int) + 1) :: visN n
theorem mem_vis {n : Nat} {i : Int} : i ∈ visN n ↔ 1 ≤ i ∧ i ≤ n := by
  induction n with
  | zero => simp [visN]; omega
  | succ n ih => simp only [visN, List.mem_cons, ih]; omega
namespace PV
variable {f : PV} {most heir p n i : Int} {vis : List Int} {c : Pr} {w w' : Bool}
theorem cur_none (hc : f i = none) : cur f heir p (i :: vis) = cur f heir p vis := by
  have e1 : sweep f heir p (i :: vis) = sweep f heir p vis := by
    funext j
    unfold sweep
    by_cases hj : j = i
    · subst hj
      rw [hc]
      simp
    · simp [hj]
  have e2 : wok f heir p (i :: vis) = wok f heir p vis := by
    rw [wok_cons, hc]
    simp
  unfold cur
  rw [e1, e2]
theorem heir_f (h : Inv f most) (hp : f p = some c) : Heir f (f.heirOf p) p := by
  have hk := h.keys p c hp
  refine ⟨?_, ?_, by omega⟩
  · unfold heirOf; split
    · exact .inr rfl
    · exact .inl rfl
  · intro h1
    unfold heirOf at h1
    split at h1
    · rename_i h2
      obtain ⟨d, hd, hs⟩ := liv_iff.1 h2.2.1
      refine ⟨d, hd, hs, ?_⟩
      have := h2.2.2
      rw [get_some hd] at this
      exact this
    · cases h1
theorem heir_ne (hp0 : p ≠ 0) : f.heirOf p ≠ p := by
  unfold heirOf
  split
  · rename_i h; exact fun e => h.1 e.symm
  · exact fun e => hp0 e.symm
theorem took_eq (hp : f p = some c) (hs : c.par ≠ p) (h1 : Took f heir p w') (h2 : Took (f.dead p n) heir p w) : w' = w := by
  have e : (∃ j d, f j = some d ∧ d.par = p ∧ d.st = 3) ↔ (∃ j d, f.dead p n j = some d ∧ d.par = p ∧ d.st = 3) := by
    have hne : ∀ j, j ≠ p → f.dead p n j = f j := fun j hj => by unfold dead put; rw [if_neg hj]
    constructor
    · rintro ⟨j, d, h3, h4, h5⟩
      have hj : j ≠ p := fun e => by subst e; rw [hp] at h3; cases h3; exact hs h4
      exact ⟨j, d, by rw [hne j hj]; exact h3, h4, h5⟩
    · rintro ⟨j, d, h3, h4, h5⟩
      have hj : j ≠ p := fun e => by
        subst e
        unfold dead put at h3
        rw [if_pos rfl, get_some hp] at h3
        injection h3 with h3
        subst h3
        exact hs h4
      exact ⟨j, d, by rw [← hne j hj]; exact h3, h4, h5⟩
  unfold Took at h1 h2
  rw [e] at h1
  have : w' = true ↔ w = true := h1.trans h2.symm
  cases w <;> cases w' <;> simp_all
theorem done_p (hp : f p = some c) (hs : c.par ≠ p) (hh : heir ≠ p) : done f heir p w p = some c := by
  unfold done
  have : ¬ (w = true ∧ p = heir) := fun h => hh h.2.symm
  rw [if_neg this, hp]
  simp [swept, hs]
theorem exit_eq (hp : f p = some c) (hs : c.par ≠ p) (hh : f.heirOf p ≠ p) : f.exit p n w = if c.par = 0 then (done f (f.heirOf p) p w).put p none else (((done f (f.heirOf p) p w).put p none).put p (some ⟨3, c.par, n⟩)).turn c.par 1 := by
  have hd : ∀ i, i ≠ p → (f.dead p n).done (f.heirOf p) p w i = done f (f.heirOf p) p w i := fun i hi => by
    unfold done dead put
    simp only [hi, if_false]
  have hdp : (f.dead p n).done (f.heirOf p) p w p = some ⟨3, c.par, n⟩ := done_p (by unfold dead put; rw [if_pos rfl, get_some hp]) hs hh
  unfold exit
  rw [get_some hp]
  unfold leave
  split
  · funext i
    unfold put
    split
    · rfl
    · rename_i hi; exact hd i hi
  · congr 1
    funext i
    unfold put
    split
    · rename_i hi; rw [hdp]; rfl
    · rename_i hi; exact hd i hi
end PV
end Go.Proofs.Ytkponloccimdlaa
