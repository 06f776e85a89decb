/- Variables in order: rows that are copied, and compared. Conditions: as each theorem says. -/
import Derived.Test.YtkpnackmijjciaaGreatDoorVaN
import Derived.Test.YtkpnackmijjciaaGreatDoorEq
namespace Go.Proofs.YtkpnackmijjciaaGreatDoor
open E Go.Lib
set_option linter.unusedVariables false
set_option linter.unusedSimpArgs false
set_option maxHeartbeats 1000000
set_option maxRecDepth 20000

section
variable {σ σ' : AS} {X : Ce} {R : List Ck} {k : Value → AS → Prop} {a b u v : Value} {L : List FV} {l : List Str}
theorem VarR.get (h : Hs σ X (VarR v L :: R)) : ∃ a g o cap, v = .slice a L.length cap ∧ L.length ≤ cap ∧ cap ≤ maxLen ∧ ∀ i (hi : i < L.length), a = some ⟨g, o, none⟩ ∧ (∀ j w, (celF L[i])[j]? = some w → ldOb (σ.c g (o + i * 5 + j)) (σ.m g) (o + i * 5 + j) = some w) := by
  obtain ⟨F, h1, _⟩ := h.s
  rcases h1 with ⟨rfl, rfl, _⟩ | ⟨g, cap, sp, rfl, _, h3, h4, h5⟩
  · exact ⟨none, 0, 0, 0, rfl, Nat.le_refl _, by unfold maxLen; decide, fun i hi => by cases hi⟩
  · refine ⟨_, g, 0, cap, rfl, h4, h5, fun i hi => ⟨rfl, fun j w hw => ?_⟩⟩
    rw [h3, Nat.zero_add]
    have hj : j < 5 := by
      have := (List.getElem?_eq_some_iff.1 hw).1
      simpa using this
    show (flat celF L sp)[i * 5 + j]? = _
    rw [flat_get (z := 5) (fun _ => rfl) (List.getElem?_eq_getElem hi) hj]
    exact hw
theorem plain_c (hok : ∀ p, p ∈ L → FvOk p) (hl : L.length ≤ 1000000) (h : Hs σ X (VarR v L :: R)) (hk : ∀ u σ', Hs σ' X (VarR u L :: VarR v L :: R) → k u σ') : kCall Tryz.prog 15 [v] σ k := by
  obtain ⟨a, g, o, cap, rfl, hc, hm, hat⟩ := VarR.get h
  refine f15 ?_
  unfold maxLen at hm
  (try simp (maxSteps := 1000000) (dsimp := false) (disch := (first | omega | (simp only [okR]; done) | (simp only [sizeR] <;> omega) | fail)) only [↓preR, postR, ↓w_stop, Nat.reduceEqDiff, Nat.reduceAdd, Nat.reduceSub, Nat.reduceMul, Int.reduceNeg, Nat.reduceLT, Int.reduceToNat, Nat.reduceLeDiff, Nat.sub_zero, F15])
  refine join_now ?_
  refine loop_inv (fun nn xs s => ∃ (j : Nat) (u : Value), xs = [u, .int .i64 j] ∧ j ≤ L.length ∧ Hs s X (E.Own (α := FV) u (L.take j) :: VarR (.slice a L.length cap) L :: R) ∧ nn = L.length - j) _ ⟨0, _, rfl, Nat.zero_le _, h.own0, rfl⟩ ?_
  rintro _ _ s again ⟨j, u, rfl, hj, h1, rfl⟩ hag
  by_cases hlt : j < L.length
  · obtain ⟨a', g', o', cap', e1, _, _, hat'⟩ := VarR.get h1.drop
    obtain ⟨rfl, c⟩ := hat' j hlt
    injection e1 with e2 _ _
    subst e2
    have c0 := c 0 _ rfl
    have c1 := c 1 _ rfl
    have c2 := c 2 _ rfl
    have c3 := c 3 _ rfl
    have c4 := c 4 _ rfl
    rw [Nat.add_zero] at c0
    obtain ⟨vx, vc, rfl, _⟩ := h1.own
    (simp (maxSteps := 1000000) (dsimp := false) (disch := (first | omega | (simp only [okR]; done) | (simp only [sizeR] <;> omega) | fail)) only [↓preR, postR, ↓w_join, Nat.reduceEqDiff, Nat.reduceAdd, Nat.reduceSub, Nat.reduceMul, Int.reduceNeg, Nat.reduceLT, Int.reduceToNat, Nat.reduceLeDiff, Nat.sub_zero, c0, c1, c2, c3, c4])
    refine push_by h1 (e := 71) (bytes := 40) (by kernel_rfl) (by kernel_rfl) (rp_fv (hok _ (List.getElem_mem hlt))) (by simp; omega) (by unfold maxLen; simp; omega) fun v' s5 g5 => ?_
    obtain ⟨vx', vc', rfl, _⟩ := g5.own
    (simp (maxSteps := 1000000) (dsimp := false) (disch := (first | omega | (simp only [okR]; done) | (simp only [sizeR] <;> omega) | fail)) only [↓preR, postR, ↓w_join, Nat.reduceEqDiff, Nat.reduceAdd, Nat.reduceSub, Nat.reduceMul, Int.reduceNeg, Nat.reduceLT, Int.reduceToNat, Nat.reduceLeDiff, Nat.sub_zero])
    have e5 : L.take j ++ [L[j]] = L.take (j + 1) := (List.take_succ_eq_append_getElem hlt).symm
    rw [e5] at g5
    refine hag _ _ _ ⟨j + 1, _, ?_, hlt, g5, rfl⟩ (by omega)
    rw [e5]
    simp
  · (simp (maxSteps := 1000000) (dsimp := false) (disch := (first | omega | (simp only [okR]; done) | (simp only [sizeR] <;> omega) | fail)) only [↓preR, postR, ↓w_join, Nat.reduceEqDiff, Nat.reduceAdd, Nat.reduceSub, Nat.reduceMul, Int.reduceNeg, Nat.reduceLT, Int.reduceToNat, Nat.reduceLeDiff, Nat.sub_zero])
    have ej : L.take j = L := List.take_of_length_le (by omega)
    rw [ej] at h1
    exact hk _ _ (VarR.own h1)
theorem same_c (h : Hs σ X (VarR a L :: VarR b L :: R)) (hk : k (.bool true) σ) : kCall Tryz.prog 18 [a, b] σ k := by
  obtain ⟨a1, g1, o1, c1, rfl, _, hm1, at1⟩ := VarR.get h
  obtain ⟨a2, g2, o2, c2, rfl, _, hm2, at2⟩ := VarR.get h.drop
  refine f18 ?_
  unfold maxLen at hm1 hm2
  (try simp (maxSteps := 1000000) (dsimp := false) (disch := (first | omega | (simp only [okR]; done) | (simp only [sizeR] <;> omega) | fail)) only [↓preR, postR, ↓w_stop, Nat.reduceEqDiff, Nat.reduceAdd, Nat.reduceSub, Nat.reduceMul, Int.reduceNeg, Nat.reduceLT, Int.reduceToNat, Nat.reduceLeDiff, Nat.sub_zero, F18])
  refine join_now ?_
  (try simp (maxSteps := 1000000) (dsimp := false) (disch := (first | omega | (simp only [okR]; done) | (simp only [sizeR] <;> omega) | fail)) only [↓preR, postR, ↓w_stop, Nat.reduceEqDiff, Nat.reduceAdd, Nat.reduceSub, Nat.reduceMul, Int.reduceNeg, Nat.reduceLT, Int.reduceToNat, Nat.reduceLeDiff, Nat.sub_zero])
  refine join_now ?_
  refine loop_inv (fun nn xs s => ∃ j : Nat, xs = [.int .i64 j] ∧ σ = s ∧ j ≤ L.length ∧ nn = L.length - j) _ ⟨0, rfl, rfl, Nat.zero_le _, rfl⟩ ?_
  rintro _ _ s again ⟨j, rfl, rfl, hj, rfl⟩ hag
  by_cases hlt : j < L.length
  · obtain ⟨rfl, c⟩ := at1 j hlt
    obtain ⟨rfl, d⟩ := at2 j hlt
    have c0 := c 0 _ rfl
    have x1 := c 1 _ rfl
    have x2 := c 2 _ rfl
    have x3 := c 3 _ rfl
    have x4 := c 4 _ rfl
    rw [Nat.add_zero] at c0
    have d0 := d 0 _ rfl
    have y1 := d 1 _ rfl
    have y2 := d 2 _ rfl
    have y3 := d 3 _ rfl
    have y4 := d 4 _ rfl
    rw [Nat.add_zero] at d0
    (simp (maxSteps := 1000000) (dsimp := false) (disch := (first | omega | (simp only [okR]; done) | (simp only [sizeR] <;> omega) | fail)) only [↓preR, postR, ↓w_join, Nat.reduceEqDiff, Nat.reduceAdd, Nat.reduceSub, Nat.reduceMul, Int.reduceNeg, Nat.reduceLT, Int.reduceToNat, Nat.reduceLeDiff, Nat.sub_zero, c0, x1, x2, x3, x4, d0, y1, y2, y3, y4])
    refine sne_by (ks := [.s, .s, .b, .b, .b]) (by kernel_rfl) [.s L[j].1, .s L[j].2.1, .b L[j].2.2.1, .b L[j].2.2.2.1, .b L[j].2.2.2.2] [.s L[j].1, .s L[j].2.1, .b L[j].2.2.1, .b L[j].2.2.2.1, .b L[j].2.2.2.2] rfl rfl ?_
    rw [decide_eq_true rfl]
    (simp (maxSteps := 1000000) (dsimp := false) (disch := (first | omega | (simp only [okR]; done) | (simp only [sizeR] <;> omega) | fail)) only [↓preR, postR, ↓w_join, Nat.reduceEqDiff, Nat.reduceAdd, Nat.reduceSub, Nat.reduceMul, Int.reduceNeg, Nat.reduceLT, Int.reduceToNat, Nat.reduceLeDiff, Nat.sub_zero, Bool.not_true])
    exact hag _ _ _ ⟨j + 1, by simp, rfl, hlt, rfl⟩ (by omega)
  · (simp (maxSteps := 1000000) (dsimp := false) (disch := (first | omega | (simp only [okR]; done) | (simp only [sizeR] <;> omega) | fail)) only [↓preR, postR, ↓w_join, Nat.reduceEqDiff, Nat.reduceAdd, Nat.reduceSub, Nat.reduceMul, Int.reduceNeg, Nat.reduceLT, Int.reduceToNat, Nat.reduceLeDiff, Nat.sub_zero])
    exact hk
theorem stexts_c (h : Hs σ X (StrR a l :: StrR b l :: R)) (hk : k (.bool true) σ) : kCall Tryz.prog 19 [a, b] σ k := by
  obtain ⟨a1, g1, o1, c1, rfl, _, hm1, _, at1⟩ := StrR.get h
  obtain ⟨a2, g2, o2, c2, rfl, _, hm2, _, at2⟩ := StrR.get h.drop
  refine f19 ?_
  unfold maxLen at hm1 hm2
  (try simp (maxSteps := 1000000) (dsimp := false) (disch := (first | omega | (simp only [okR]; done) | (simp only [sizeR] <;> omega) | fail)) only [↓preR, postR, ↓w_stop, Nat.reduceEqDiff, Nat.reduceAdd, Nat.reduceSub, Nat.reduceMul, Int.reduceNeg, Nat.reduceLT, Int.reduceToNat, Nat.reduceLeDiff, Nat.sub_zero, F19])
  refine join_now ?_
  (try simp (maxSteps := 1000000) (dsimp := false) (disch := (first | omega | (simp only [okR]; done) | (simp only [sizeR] <;> omega) | fail)) only [↓preR, postR, ↓w_stop, Nat.reduceEqDiff, Nat.reduceAdd, Nat.reduceSub, Nat.reduceMul, Int.reduceNeg, Nat.reduceLT, Int.reduceToNat, Nat.reduceLeDiff, Nat.sub_zero])
  refine join_now ?_
  refine loop_inv (fun nn xs s => ∃ j : Nat, xs = [.int .i64 j] ∧ σ = s ∧ j ≤ l.length ∧ nn = l.length - j) _ ⟨0, rfl, rfl, Nat.zero_le _, rfl⟩ ?_
  rintro _ _ s again ⟨j, rfl, rfl, hj, rfl⟩ hag
  by_cases hlt : j < l.length
  · obtain ⟨rfl, c0, _⟩ := at1 j hlt
    obtain ⟨rfl, d0, _⟩ := at2 j hlt
    (simp (maxSteps := 1000000) (dsimp := false) (disch := (first | omega | (simp only [okR]; done) | (simp only [sizeR] <;> omega) | fail)) only [↓preR, postR, ↓w_join, Nat.reduceEqDiff, Nat.reduceAdd, Nat.reduceSub, Nat.reduceMul, Int.reduceNeg, Nat.reduceLT, Int.reduceToNat, Nat.reduceLeDiff, Nat.sub_zero, c0, d0])
    exact hag _ _ _ ⟨j + 1, by simp, rfl, hlt, rfl⟩ (by omega)
  · (simp (maxSteps := 1000000) (dsimp := false) (disch := (first | omega | (simp only [okR]; done) | (simp only [sizeR] <;> omega) | fail)) only [↓preR, postR, ↓w_join, Nat.reduceEqDiff, Nat.reduceAdd, Nat.reduceSub, Nat.reduceMul, Int.reduceNeg, Nat.reduceLT, Int.reduceToNat, Nat.reduceLeDiff, Nat.sub_zero])
    exact hk
end
end Go.Proofs.YtkpnackmijjciaaGreatDoor
