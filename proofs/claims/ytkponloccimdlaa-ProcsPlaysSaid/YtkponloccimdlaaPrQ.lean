/- Processes that may go on, as the program has them. Conditions: as each theorem says. -/
import Derived.Test.YtkponloccimdlaaPrS
namespace Go.Proofs.Ytkponloccimdlaa
open E Go.Lib PT
set_option linter.unusedVariables false
set_option linter.unusedSimpArgs false
set_option maxHeartbeats 1000000
set_option maxRecDepth 20000

theorem ready_srt {f : PV} {N : Nat} {L : List Int} (hn : L.Nodup) (h : ∀ z, z ∈ L ↔ z ∈ readyL f N) : srt L = readyL f N := by
  have hs := ready_sorted f N
  have hn2 : (readyL f N).Nodup := hs.imp (fun h => by omega)
  have hp : (srt L).Perm (readyL f N) := (List.mergeSort_perm _ _).trans ((List.perm_ext_iff_of_nodup hn hn2).2 h)
  have h1 : (srt L).Pairwise (fun a b => a ≤ b) := by
    have := List.pairwise_mergeSort (le := fun x y : Int => decide (x ≤ y)) (fun a b c h1 h2 => by simp at *; omega) (fun a b => by simp; omega) L
    exact this.imp (fun h => by simpa using h)
  exact hp.eq_of_pairwise (fun a b _ _ h1 h2 => by omega) h1 (hs.imp (fun h => by omega))
section
variable {σ σ' : AS} {X : Ce} {R : List Ck} {k : Value → AS → Prop} {t r N : Nat} {most pid : Int} {l : Tl}
theorem ready_c (h : Hs σ X (TH t r N none l R)) (hi : Inv (vw l) N) (hN : N ≤ 1024) (hk : ∀ v σ', Hs σ' X (E.Own (α := Int) v (readyL (vw l) N) :: TH t r N none l R) → k v σ') :
    kCall Try.prog 18 [pp t] σ k := by
  refine f18 ?_
  (try simp (maxSteps := 1000000) (dsimp := false) (disch := (first | omega | (simp only [okR]; done) | (simp only [sizeR] <;> omega) | fail)) only [↓preR, postR, ↓w_stop, Nat.reduceEqDiff, Nat.reduceAdd, Nat.reduceSub, Nat.reduceMul, Int.reduceNeg, Nat.reduceLT, Int.reduceToNat, Nat.reduceLeDiff, Nat.sub_zero, F18])
  refine join_now ?_
  (try simp (maxSteps := 1000000) (dsimp := false) (disch := (first | omega | (simp only [okR]; done) | (simp only [sizeR] <;> omega) | fail)) only [↓preR, postR, ↓w_stop, Nat.reduceEqDiff, Nat.reduceAdd, Nat.reduceSub, Nat.reduceMul, Int.reduceNeg, Nat.reduceLT, Int.reduceToNat, Nat.reduceLeDiff, Nat.sub_zero, pp])
  refine join_by fun J2 hJ2 => ?_
  have e0 := h.obj
  (try simp (maxSteps := 1000000) (dsimp := false) (disch := (first | omega | (simp only [okR]; done) | (simp only [sizeR] <;> omega) | fail)) only [↓preR, postR, ↓w_stop, Nat.reduceEqDiff, Nat.reduceAdd, Nat.reduceSub, Nat.reduceMul, Int.reduceNeg, Nat.reduceLT, Int.reduceToNat, Nat.reduceLeDiff, Nat.sub_zero, e0])
  refine rng_by (κ := Int) h.swap Try.underlying54 fun σ2 h2 => ?_
  replace h2 := h2.swap
  generalize σ.n = it at h2 ⊢
  refine loop_inv (fun n xs s => ∃ v L vis, xs = [v] ∧ Hs s X (E.Own (α := Int) v L :: TH t r N (some (it, vis)) l R) ∧ vis.Nodup ∧ (∀ j, j ∈ vis → ∃ c, vw l j = some c) ∧ L.Nodup ∧ L.length ≤ vis.length ∧ (∀ z, z ∈ L ↔ z ∈ vis ∧ ((vw l).get z).st = 1) ∧ n = l.length - vis.length) _ ⟨_, [], [], rfl, h2.own0, by simp, by simp, by simp, by simp, by simp, rfl⟩ ?_
  rintro n _ s again ⟨v, L, vis, rfl, h3, hnd, hkv, hLn, hLl, hL, rfl⟩ hag
  have hlc : l.length ≤ N := by
    have := len_cnt (l := l) h3.drop.tnd (most := N) (fun i c hc => hi.keys i c hc)
    have := cnt_le (vw l) N
    omega
  have hvl := keys_le _ hnd hkv
  (try simp (maxSteps := 1000000) (dsimp := false) (disch := (first | omega | (simp only [okR]; done) | (simp only [sizeR] <;> omega) | fail)) only [↓preR, postR, ↓w_stop, Nat.reduceEqDiff, Nat.reduceAdd, Nat.reduceSub, Nat.reduceMul, Int.reduceNeg, Nat.reduceLT, Int.reduceToNat, Nat.reduceLeDiff, Nat.sub_zero])
  refine nxt_by (κ := Int) (h3.front 2 rfl) (fun hall => ?_) (fun kk v' σ4 hmk hnv h4 => ?_)
  · have h5 := (Mp.over (h3.front 2 rfl))
    have h5 : Hs s X (E.Own (α := Int) v L :: TH t r N none l R) := (h5.front 2 rfl).front 2 rfl
    have hallv : ∀ i c, vw l i = some c → i ∈ vis := by
      intro i c hi
      unfold vw at hi
      rw [Option.map_eq_some_iff] at hi
      obtain ⟨x, hx, _⟩ := hi
      exact hall _ (List.mem_map.2 ⟨_, lookup_mem hx, rfl⟩)
    have es : srt L = readyL (vw l) N := by
      refine ready_srt hLn (fun z => ?_)
      rw [hL, mem_ready]
      constructor
      · rintro ⟨h6, h7⟩
        obtain ⟨c, hc⟩ := hkv z h6
        have := hi.keys z c hc
        exact ⟨this.1, this.2, h7⟩
      · rintro ⟨h6, h7, h8⟩
        cases hf : vw l z with
        | none => rw [get_none hf] at h8; cases h8
        | some c => exact ⟨hallv z c hf, h8⟩
    (try simp (maxSteps := 1000000) (dsimp := false) (disch := (first | omega | (simp only [okR]; done) | (simp only [sizeR] <;> omega) | fail)) only [↓preR, postR, ↓w_stop, Nat.reduceEqDiff, Nat.reduceAdd, Nat.reduceSub, Nat.reduceMul, Int.reduceNeg, Nat.reduceLT, Int.reduceToNat, Nat.reduceLeDiff, Nat.sub_zero])
    refine hJ2 _ _ ?_
    (try simp (maxSteps := 1000000) (dsimp := false) (disch := (first | omega | (simp only [okR]; done) | (simp only [sizeR] <;> omega) | fail)) only [↓preR, postR, ↓w_stop, Nat.reduceEqDiff, Nat.reduceAdd, Nat.reduceSub, Nat.reduceMul, Int.reduceNeg, Nat.reduceLT, Int.reduceToNat, Nat.reduceLeDiff, Nat.sub_zero])
    refine sorti_c h5 (by omega) fun w σ6 h6 => ?_
    rw [es] at h6
    exact hk _ _ h6
  · obtain ⟨e, hme, heq⟩ := List.mem_map.1 hmk
    obtain ⟨kk', q', c'⟩ := e
    simp only [Prod.mk.injEq] at heq
    obtain ⟨rfl, rfl⟩ := heq
    have h4' : Hs σ4 X (E.Own (α := Int) v L :: TH t r N (some (it, kk' :: vis)) l R) := (h4.front 2 rfl).front 2 rfl
    have hc' := h4'.drop.tcell hme
    have hvk := vw_mem h4'.drop.tnd hme
    unfold prC at hc'
    have hnd' : (kk' :: vis).Nodup := List.nodup_cons.2 ⟨hnv, hnd⟩
    have hkeys' : ∀ j, j ∈ kk' :: vis → ∃ c, vw l j = some c := by
      intro j hj
      rcases List.mem_cons.1 hj with rfl | hj
      · exact ⟨c', hvk⟩
      · exact hkv j hj
    have hm1 := keys_le _ hnd' hkeys'
    rw [List.length_cons] at hm1
    have hkr := hi.keys _ _ hvk
    (try simp (maxSteps := 1000000) (dsimp := false) (disch := (first | omega | (simp only [okR]; done) | (simp only [sizeR] <;> omega) | fail)) only [↓preR, postR, ↓w_stop, Nat.reduceEqDiff, Nat.reduceAdd, Nat.reduceSub, Nat.reduceMul, Int.reduceNeg, Nat.reduceLT, Int.reduceToNat, Nat.reduceLeDiff, Nat.sub_zero])
    refine join_now ?_
    (try simp (maxSteps := 1000000) (dsimp := false) (disch := (first | omega | (simp only [okR]; done) | (simp only [sizeR] <;> omega) | fail)) only [↓preR, postR, ↓w_stop, Nat.reduceEqDiff, Nat.reduceAdd, Nat.reduceSub, Nat.reduceMul, Int.reduceNeg, Nat.reduceLT, Int.reduceToNat, Nat.reduceLeDiff, Nat.sub_zero])
    refine ent_by (κ := Int) h4 hmk ?_
    by_cases hst : c'.st = 1
    · (try simp (maxSteps := 1000000) (dsimp := false) (disch := (first | omega | (simp only [okR]; done) | (simp only [sizeR] <;> omega) | fail)) only [↓preR, postR, ↓w_stop, Nat.reduceEqDiff, Nat.reduceAdd, Nat.reduceSub, Nat.reduceMul, Int.reduceNeg, Nat.reduceLT, Int.reduceToNat, Nat.reduceLeDiff, Nat.sub_zero, pp, hc', encK_i, hst])
      refine push_by h4' (e := 3) (bytes := 8) (by kernel_rfl) (by kernel_rfl) (a := kk') ⟨rfl, by unfold inI64; omega⟩ (by omega) (by unfold maxLen; omega) fun v2 s4 h5 => ?_
      (try simp (maxSteps := 1000000) (dsimp := false) (disch := (first | omega | (simp only [okR]; done) | (simp only [sizeR] <;> omega) | fail)) only [↓preR, postR, ↓w_stop, Nat.reduceEqDiff, Nat.reduceAdd, Nat.reduceSub, Nat.reduceMul, Int.reduceNeg, Nat.reduceLT, Int.reduceToNat, Nat.reduceLeDiff, Nat.sub_zero])
      refine hag _ _ _ ⟨v2, L ++ [kk'], kk' :: vis, rfl, h5, hnd', hkeys', ?_, by simp; omega, fun z => ?_, rfl⟩ (by simp; omega)
      · rw [List.nodup_append]
        refine ⟨hLn, by simp, fun a ha b hb => ?_⟩
        simp only [List.mem_singleton] at hb
        subst hb
        rintro rfl
        exact hnv ((hL a).1 ha).1
      · rw [List.mem_append, hL, List.mem_singleton, List.mem_cons]
        constructor
        · rintro (⟨h6, h7⟩ | rfl)
          · exact ⟨.inr h6, h7⟩
          · exact ⟨.inl rfl, by rw [get_some hvk]; exact hst⟩
        · rintro ⟨h6 | h6, h7⟩
          · exact .inr h6
          · exact .inl ⟨h6, h7⟩
    · (try simp (maxSteps := 1000000) (dsimp := false) (disch := (first | omega | (simp only [okR]; done) | (simp only [sizeR] <;> omega) | fail)) only [↓preR, postR, ↓w_stop, Nat.reduceEqDiff, Nat.reduceAdd, Nat.reduceSub, Nat.reduceMul, Int.reduceNeg, Nat.reduceLT, Int.reduceToNat, Nat.reduceLeDiff, Nat.sub_zero, pp, hc', encK_i, hst])
      refine hag _ _ _ ⟨v, L, kk' :: vis, rfl, h4', hnd', hkeys', hLn, by simp; omega, fun z => ?_, rfl⟩ (by simp; omega)
      rw [hL, List.mem_cons]
      constructor
      · rintro ⟨h6, h7⟩; exact ⟨.inr h6, h7⟩
      · rintro ⟨h6 | h6, h7⟩
        · subst h6; rw [get_some hvk] at h7; exact absurd h7 hst
        · exact ⟨h6, h7⟩
end
end Go.Proofs.Ytkponloccimdlaa
