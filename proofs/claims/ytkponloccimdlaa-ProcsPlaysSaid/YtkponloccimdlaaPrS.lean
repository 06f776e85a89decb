/- A row of numbers in rising order: slices.Sort. Conditions: as each theorem says. -/
import Derived.Test.YtkponloccimdlaaPrR
import Derived.Test.YtkponloccimdlaaS
import Derived.Test.YtkponloccimdlaaLb
import Derived.Shelf.Slices.In.SortNone
namespace Go.Proofs.Ytkponloccimdlaa
open E Go.Lib PT
open Go.Shelf Go.RowKit Go.Sort
set_option linter.unusedVariables false
set_option linter.unusedSimpArgs false
set_option maxHeartbeats 1000000
set_option maxRecDepth 20000

theorem putRow_put {w : World} {g : Nat} {cs : List Value} (hb : blk w g = some cs) (F : Array Value) (hF : F.size ≤ cs.length) : putRow id w g 0 F = E.put w g (F.toList ++ cs.drop F.size) := by
  obtain ⟨t, ht⟩ := blk_some hb
  have hlt := (Array.getElem?_eq_some_iff.1 ht).1
  unfold putRow mapBlock E.put
  congr 1
  apply Array.ext_getElem?
  intro i
  rw [Array.getElem?_modify, Array.getElem?_setIfInBounds]
  by_cases hi : g = i
  · subst hi
    rw [if_pos rfl, if_pos rfl, if_pos hlt, ht]
    have ety : tyOf w g = t := by unfold tyOf; rw [ht]
    rw [ety]
    simp only [Option.map_some, onCells]
    congr 2
    apply Array.ext_getElem?
    intro j
    unfold putCells
    rw [Array.getElem?_mapIdx]
    by_cases hj : j < F.size
    · have hj2 : j < cs.length := by omega
      simp [hj2, hj]
      rw [List.getElem?_append_left (by simpa using hj)]
      simp [hj]
    · simp [hj]
      by_cases hj2 : j < cs.length
      · rw [List.getElem?_append_right (by simp; omega)]
        simp [hj2]
        rw [show F.size + (j - F.size) = j from by omega]
        simp [hj2]
      · rw [List.getElem?_eq_none (by omega), List.getElem?_eq_none (by simp; omega)]
  · rw [if_neg hi, if_neg hi]
theorem putRow_enc {α : Type} [Inhabited α] (enc : α → Value) (w : World) (g : Nat) (d : Array α) : putRow enc w g 0 d = putRow id w g 0 (d.map enc) := by
  unfold putRow
  congr 1
  funext cells
  unfold putCells
  apply Array.ext_getElem?
  intro i
  rw [Array.getElem?_mapIdx, Array.getElem?_mapIdx]
  congr 1
  funext c
  by_cases hi : i < d.size
  · simp [hi]
  · simp [hi]
abbrev eZ (n : Int) : Value := .int .i64 n
abbrev srt (l : List Int) : List Int := l.mergeSort fun x y => decide (x ≤ y)
section
variable {σ σ' : AS} {X : Ce} {R : List Ck} {k : Value → AS → Prop} {v : Value} {l : List Int}
theorem rpl_int {c : Ce} : ∀ {l : List Int} {xs : List Value}, RpL c l xs → xs = l.map eZ ∧ ∀ z, z ∈ l → inI64 z
  | [], xs, h => ⟨h, fun z hz => by cases hz⟩
  | a :: l, xs, ⟨x, y, e, hx, hy⟩ => by
    obtain ⟨h1, h2⟩ := rpl_int hy
    refine ⟨by rw [e, h1, hx.1]; rfl, fun z hz => ?_⟩
    rcases List.mem_cons.1 hz with rfl | hz
    · exact hx.2
    · exact h2 z hz
theorem rpl_mk {c : Ce} : ∀ {l : List Int}, (∀ z, z ∈ l → inI64 z) → RpL c l (l.map eZ)
  | [], _ => rfl
  | a :: l, h => ⟨[eZ a], l.map eZ, rfl, ⟨rfl, h a (by simp)⟩, rpl_mk (fun z hz => h z (by simp [hz]))⟩
theorem own_cel (h : Hs σ X (E.Own (α := Int) v l :: R)) : (v = .slice none 0 0 ∧ l = []) ∨ ∃ g cap sp, v = .slice (some ⟨g, 0, none⟩) l.length cap ∧ (∀ z, z ∈ l → inI64 z) ∧ Hs σ X (Cel g (l.map eZ ++ sp) :: R) ∧
    ∀ σ' l', l'.length = l.length → (∀ z, z ∈ l' → inI64 z) → Hs σ' X (Cel g (l'.map eZ ++ sp) :: R) → Hs σ' X (E.Own (α := Int) v l' :: R) := by
  obtain ⟨F, ⟨rfl, xs, h1, h2⟩, hk⟩ := h.turn
  obtain ⟨hx, hin⟩ := rpl_int h2
  rcases h1 with ⟨rfl, h0, _⟩ | ⟨g, c, sp, rfl, hm, hl, hcl, hle, hcm⟩
  · exact .inl ⟨rfl, List.eq_nil_of_length_eq_zero h0⟩
  · rw [hx] at hm
    refine .inr ⟨g, c, sp, rfl, hin, hk (F' := [g]) (Chg.refl _ _) ⟨rfl, hm⟩ (fun g' hg => .inl (by simpa [ownL] using hg)), fun σ' l' hll hin' h' => ?_⟩
    obtain ⟨F, ⟨rfl, hm'⟩, hk'⟩ := h'.turn
    refine hk' (F' := [g]) (Chg.refl _ _) ⟨rfl, l'.map eZ, .inr ⟨g, c, sp, by rw [hll], hm', ?_, ?_, by omega, hcm⟩, rpl_mk hin'⟩ (fun g hg => .inl hg)
    · rw [List.length_map, hll]; rw [hx, List.length_map] at hl; exact hl
    · simpa [hx, hll] using hcl
theorem sorti_c (h : Hs σ X (E.Own (α := Int) v l :: R)) (hl : l.length ≤ 1000000) (hk : ∀ w σ', Hs σ' X (E.Own (α := Int) v (srt l) :: R) → k w σ') : kCall Try.prog 30 [v] σ k := by
  have hperm : (srt l).length = l.length := by simp [srt]
  rcases own_cel h with ⟨rfl, rfl⟩ | ⟨g, cap, sp, rfl, hin, hc, hback⟩
  · rw [show srt [] = [] from by simp [srt]] at hk
    refine below_by (v := .tuple #[]) (fun w hw => ?_) (fun j => hk _ _ (h.up j))
    exact Calls.mono (Any.slices_Sort_int_none Try.lays189 none 0 w) fun e w' ⟨he, hw'⟩ => ⟨he, hw' ▸ RowKit.Below.refl _ _⟩
  · intro w hw
    have hb : blk w g = some (l.map eZ ++ sp) := hw.m g _ hc.obj
    have hH : Holds (Value.int .i64) w g 0 l.toArray := by
      intro j hj
      have hj' : j < l.length := by simpa using hj
      refine ⟨?_, fro hb _ _⟩
      rw [cel hb, Nat.zero_add]
      rw [List.getElem?_append_left (by simpa using hj'), List.getElem?_map, List.getElem?_eq_getElem hj', Option.map_some]
      rw [getElem!_pos _ j hj]
      simp
    refine Calls.mono (Any.slices_Sort_int Try.lays189 g 0 cap l w hH (blk_lt hb) (by omega)) fun e w' ⟨he, n, os, hw'⟩ => ⟨_, he, ?_⟩
    have hb1 : blk (Go.Sort.ahead w n) g = some (l.map eZ ++ sp) := hb
    have e5 : putRow (Value.int .i64) (Go.Sort.ahead w n) g 0 (srt l).toArray = E.put (Go.Sort.ahead w n) g ((srt l).map eZ ++ sp) := by
      rw [putRow_enc, putRow_put hb1 _ (by simp)]
      congr 1
      have e1 : ((srt l).toArray.map (Value.int .i64)).toList = (srt l).map eZ := by simp
      have e2 : ((srt l).toArray.map (Value.int .i64)).size = (l.map eZ).length := by simp
      rw [e1, e2, List.drop_left]
    have hw2 : Sat (σ.put g (.cells ((srt l).map eZ ++ sp))) (E.put (Go.Sort.ahead w n) g ((srt l).map eZ ++ sp)) := Sat.put (hw.drewN n) hc.obj _
    have hbel : Below (E.put (Go.Sort.ahead w n) g ((srt l).map eZ ++ sp)).heap.size (E.put (Go.Sort.ahead w n) g ((srt l).map eZ ++ sp)) (grow (E.put (Go.Sort.ahead w n) g ((srt l).map eZ ++ sp)) os) :=
      ⟨rfl, rfl, rfl, by simp [grow], fun k hk => by simp only [grow]; rw [Array.getElem?_append_left hk]⟩
    have ew : w' = grow (E.put (Go.Sort.ahead w n) g ((srt l).map eZ ++ sp)) os := by rw [hw', ← e5]
    rw [ew]
    refine ⟨?_, _, hw2.below hbel, ?_, hk _ _ ((hback _ (srt l) hperm (fun z hz => hin z ((List.mergeSort_perm _ _).mem_iff.1 hz)) hc.put).up _)⟩
    · have hg : σ.live g := by unfold AS.live; rw [hc.obj]; simp
      exact ((KeepP.drewN σ.live w n).step (KeepP.put_ (S := σ.live) hg _) (fun i h => .inl h)).step (KeepP.ofBelow (S := fun _ => False) hbel) (fun i h => h.elim)
    · exact (Fol.put σ g _).trans (Fol.up _ _)
end
end Go.Proofs.Ytkponloccimdlaa
