/- Variables in order: the sort, over states. Conditions: none. -/
import Derived.Test.YtkpnackmijjciaaGreatDoorVaK
import Derived.Test.YtkpnackmijjciaaGreatDoorFt
namespace Go.Proofs.YtkpnackmijjciaaGreatDoor
open E Go.Lib
open Go.Shelf Go.RowKit Go.Sort
set_option linter.unusedVariables false
set_option linter.unusedSimpArgs false
set_option maxHeartbeats 1000000
set_option maxRecDepth 20000

theorem flatK_flat {enc : Str → List Value} {z : Nat} (hf : ∀ x, (enc x).length = z) (hz : 0 < z) (d : List Str) : (flatK enc z d.toArray).toList = flat enc d [] := by
  apply List.ext_getElem?
  intro t
  have hl : (flat enc d []).length = d.length * z := by rw [flat_len hf]; simp
  by_cases ht : t < d.length * z
  · have hi : t / z < d.length := Nat.div_lt_of_lt_mul (by rw [Nat.mul_comm]; exact ht)
    have h1 := flat_get (sp := []) hf (List.getElem?_eq_getElem hi) (Nat.mod_lt t hz)
    have e : t / z * z + t % z = t := by rw [Nat.mul_comm]; exact Nat.div_add_mod t z
    rw [e] at h1
    rw [h1]
    have h2 : t < (flatK enc z d.toArray).size := by rw [size_flatK]; simpa using ht
    have h3 := get_flatK enc z d.toArray t (by simpa using ht)
    rw [Array.getElem?_toList, Array.getElem?_eq_getElem h2]
    rw [getElem!_pos _ t h2] at h3
    rw [h3, getElem!_pos _ (t / z) (by simpa using hi), getElem!_pos _ (t % z) (by rw [hf]; exact Nat.mod_lt t hz)]
    simp [hf, Nat.mod_lt t hz]
  · rw [List.getElem?_eq_none (by rw [Array.length_toList, size_flatK]; simp; omega), List.getElem?_eq_none (by rw [hl]; omega)]
theorem putRow_put {w : World} {g : Nat} {cs : List Value} (hb : blk w g = some cs) (F : Array Value) (hF : F.size ≤ cs.length) : putRow id w g 0 F = E.put w g (F.toList ++ cs.drop F.size) := by
  obtain ⟨t, ht⟩ := blk_some hb
  have hlt := (Array.getElem?_eq_some_iff.1 ht).1
  unfold putRow mapBlock E.put
  congr 1
  apply Array.ext_getElem?
  intro i
  rw [Array.getElem?_modify, Array.getElem?_setIfInBounds]
  by_cases hi : g = i
  · subst hi
    rw [if_pos rfl, if_pos rfl, if_pos hlt, ht]
    have ety : tyOf w g = t := by unfold tyOf; rw [ht]
    rw [ety]
    simp only [Option.map_some, onCells]
    congr 2
    apply Array.ext_getElem?
    intro j
    unfold putCells
    rw [Array.getElem?_mapIdx]
    by_cases hj : j < F.size
    · have hj2 : j < cs.length := by omega
      simp [hj2, hj]
      rw [List.getElem?_append_left (by simpa using hj)]
      simp [hj]
    · simp [hj]
      by_cases hj2 : j < cs.length
      · rw [List.getElem?_append_right (by simp; omega)]
        simp [hj2]
        rw [show F.size + (j - F.size) = j from by omega]
        simp [hj2]
      · rw [List.getElem?_eq_none (by omega), List.getElem?_eq_none (by simp; omega)]
  · rw [if_neg hi, if_neg hi]
section
variable {σ σ' : AS} {X : Ce} {R : List Ck} {k : Value → AS → Prop} {g cap : Nat} {sp : List Value} {l : VL} {d : List Str}
abbrev encS (l : VL) (n : Str) : List Value := celV n (getV l n)
theorem encS_len (n : Str) : (encS l n).length = 5 := rfl
abbrev sortS (d : List Str) : List Str := d.mergeSort fun x y => !ltOf cfS y x
theorem cmpS (blk off size : Nat) (w : World) : CmpLays Tryz.prog 49 #[] (encS l) 5 cfS blk off size w := fun _ _ _ _ x y => by
  have h := Srt.closure (bs x) (bs y) (bs (getV l x).val) (bs (getV l y).val) (getV l x).set (getV l x).exp (getV l x).ro (getV l y).set (getV l y).exp (getV l y).ro
  have e1 : (bs x).data.toList = x := by simp [bs]
  have e2 : (bs y).data.toList = y := by simp [bs]
  rw [e1, e2] at h
  exact h _
theorem sort_c (h : Hs σ X (Cel g (flat (encS l) d sp) :: R)) (hd : d.length ≤ 1000000) (hk : ∀ w σ', Hs σ' X (Cel g (flat (encS l) (sortS d) sp) :: R) → k w σ') :
    kCall Tryz.prog 66 [.slice (some ⟨g, 0, none⟩) d.length cap, .func (.func 49) #[] #[]] σ k := by
  intro w hw
  have hb : blk w g = some (flat (encS l) d sp) := hw.m g _ h.obj
  have eg : ∀ args w, (callFunc 49 args).run Tryz.prog w = .ok (.enter 49 args) w := enters_of Tryz.func49 (by kernel_rfl) rfl
  have hfl := flatK_flat (enc := encS l) (z := 5) encS_len (by decide) d
  have hH : HoldsK (encS l) 5 w g 0 d.toArray := by
    intro j hj
    rw [size_flatK] at hj
    have hj2 : j < (flat (encS l) d []).length := by rw [flat_len encS_len]; simpa using hj
    refine ⟨?_, fro hb _ _⟩
    rw [cel hb, Nat.zero_add]
    have e : (flatK (encS l) 5 d.toArray)[j]! = (flat (encS l) d [])[j] := by
      have hs : j < (flatK (encS l) 5 d.toArray).size := by rw [size_flatK]; exact hj
      rw [getElem!_pos _ j hs, ← Array.getElem_toList (h := hs)]
      simp only [hfl]
    rw [e]
    show (flat (encS l) d sp)[j]? = some _
    have e3 : flat (encS l) d sp = flat (encS l) d [] ++ sp := by unfold flat; simp
    rw [e3, List.getElem?_append_left hj2, List.getElem?_eq_getElem hj2]
    rfl
  have hcon := AnyQ.slices_SortFunc_total Tryz.sortL 5 Tryz.isAgg70 Tryz.sizeOf70 (encS l) encS_len (fun x v hv => by simp [encS] at hv; rcases hv with rfl | rfl | rfl | rfl | rfl <;> rfl) cfS swoS 49 #[] g 0 cap d.toArray w eg (cmpS _ _ _ _) hH (blk_lt hb) (by simp; omega) totS
  have esz : d.toArray.size = d.length := by simp
  rw [esz] at hcon
  refine Calls.mono hcon fun e w' ⟨he, n, os, hw'⟩ => ⟨_, he, ?_⟩
  have hb1 : blk (Go.Sort.ahead w n) g = some (flat (encS l) d sp) := hb
  have hperm : (sortS d).length = d.length := by simp [sortS]
  have e5 : putRowK (encS l) 5 (Go.Sort.ahead w n) g 0 (sortS d).toArray = E.put (Go.Sort.ahead w n) g (flat (encS l) (sortS d) sp) := by
    unfold putRowK
    rw [putRow_put hb1 _ (by rw [size_flatK, flat_len encS_len]; simp <;> omega), flatK_flat encS_len (by decide)]
    congr 1
    rw [size_flatK]
    have : (flat (encS l) d sp).drop ((sortS d).toArray.size * 5) = sp := by
      rw [List.size_toArray, hperm]
      have e3 : flat (encS l) d sp = flat (encS l) d [] ++ sp := by unfold flat; simp
      rw [e3, List.drop_left' (by rw [flat_len encS_len]; simp)]
    rw [this]
    unfold flat; simp
  have hw2 : Sat (σ.put g (.cells (flat (encS l) (sortS d) sp))) (E.put (Go.Sort.ahead w n) g (flat (encS l) (sortS d) sp)) := Sat.put (hw.drewN n) h.obj _
  have hbel : Below (E.put (Go.Sort.ahead w n) g (flat (encS l) (sortS d) sp)).heap.size (E.put (Go.Sort.ahead w n) g (flat (encS l) (sortS d) sp)) (grow (E.put (Go.Sort.ahead w n) g (flat (encS l) (sortS d) sp)) os) :=
    ⟨rfl, rfl, rfl, by simp [grow], fun k hk => by simp only [grow]; rw [Array.getElem?_append_left hk]⟩
  have ew : w' = grow (E.put (Go.Sort.ahead w n) g (flat (encS l) (sortS d) sp)) os := by
    rw [hw', ← e5]; rfl
  rw [ew]
  refine ⟨?_, _, hw2.below hbel, ?_, hk _ _ (h.put.up _)⟩
  · have hg : σ.live g := by unfold AS.live; rw [h.obj]; simp
    exact ((KeepP.drewN σ.live w n).step (KeepP.put_ (S := σ.live) hg _) (fun i h => .inl h)).step (KeepP.ofBelow (S := fun _ => False) hbel) (fun i h => h.elim)
  · exact (Fol.put σ g _).trans (Fol.up _ _)
end
end Go.Proofs.YtkpnackmijjciaaGreatDoor
