/- Laws of expressions: lists of variables. Conditions: as each theorem says. -/
import Derived.Test.YtkbpbagjbjkpmaaGreatDoorWm
namespace Go.Proofs.YtkbpbagjbjkpmaaGreatDoor
open E Go.Lib
open Rp
set_option linter.unusedVariables false
set_option linter.unusedSimpArgs false
set_option maxHeartbeats 1000000
set_option maxRecDepth 20000

section
variable {X : Ce} {σ : AS} {R : List Ck} {k : Value → AS → Prop} {v u vv : Value} {g i : Nat} {o : Go.Obj} {l : List (Str × Str)}
theorem few_c (hr : RepL X v l) (h : Hs σ X R) (hk : k (.bool (fewP l)) σ) : kCall Tryz.prog 10 [v] σ k := by
  obtain ⟨va, vb, vo, vcap, rfl, hc, hm, hat⟩ := pair_at hr
  refine f10 ?_
  unfold maxLen at hm
  unfold fewP at hk
  by_cases h30 : l.length ≤ 30
  rotate_left
  · rw [decide_eq_false h30, Bool.false_and] at hk
    have h30' : 30 < (l.length : Int) := by omega
    (try simp (maxSteps := 1000000) (dsimp := false) (disch := (first | omega | (simp only [okR]; done) | (simp only [sizeR] <;> omega) | fail)) only [↓preR, postR, ↓w_stop, Nat.reduceEqDiff, Nat.reduceAdd, Nat.reduceSub, Nat.reduceMul, Int.reduceNeg, Nat.reduceLT, Int.reduceToNat, Nat.reduceLeDiff, Nat.sub_zero, F10, h30'])
    refine join_now ?_
    (try simp (maxSteps := 1000000) (dsimp := false) (disch := (first | omega | (simp only [okR]; done) | (simp only [sizeR] <;> omega) | fail)) only [↓preR, postR, ↓w_stop, Nat.reduceEqDiff, Nat.reduceAdd, Nat.reduceSub, Nat.reduceMul, Int.reduceNeg, Nat.reduceLT, Int.reduceToNat, Nat.reduceLeDiff, Nat.sub_zero, h30'])
    exact hk
  rw [decide_eq_true h30, Bool.true_and] at hk
  have h30' : ¬ 30 < (l.length : Int) := by omega
  (try simp (maxSteps := 1000000) (dsimp := false) (disch := (first | omega | (simp only [okR]; done) | (simp only [sizeR] <;> omega) | fail)) only [↓preR, postR, ↓w_stop, Nat.reduceEqDiff, Nat.reduceAdd, Nat.reduceSub, Nat.reduceMul, Int.reduceNeg, Nat.reduceLT, Int.reduceToNat, Nat.reduceLeDiff, Nat.sub_zero, F10])
  refine join_now ?_
  (try simp (maxSteps := 1000000) (dsimp := false) (disch := (first | omega | (simp only [okR]; done) | (simp only [sizeR] <;> omega) | fail)) only [↓preR, postR, ↓w_stop, Nat.reduceEqDiff, Nat.reduceAdd, Nat.reduceSub, Nat.reduceMul, Int.reduceNeg, Nat.reduceLT, Int.reduceToNat, Nat.reduceLeDiff, Nat.sub_zero, h30'])
  refine join_now ?_
  refine loop_inv (fun nn xs s => ∃ j : Nat, xs = [.int .i64 j] ∧ σ = s ∧ j ≤ l.length ∧ l.all few1 = (l.drop j).all few1 ∧ nn = l.length - j) _ ⟨0, rfl, rfl, Nat.zero_le _, rfl, rfl⟩ ?_
  rintro _ _ s again ⟨j, rfl, rfl, hj, hall, rfl⟩ hag
  by_cases hlt : j < l.length
  · obtain ⟨rfl, c0, c1, m0, m1⟩ := hat j hlt
    have g0 := h.ldx c0
    have g1 := h.ldx c1
    rw [List.drop_eq_getElem_cons hlt, List.all_cons] at hall
    generalize l[j] = p at g0 g1 m0 m1 hall
    have bad : few1 p = false → k (.bool false) σ := by
      intro hp
      rw [hp, Bool.false_and] at hall
      rw [hall] at hk
      exact hk
    (try simp (maxSteps := 1000000) (dsimp := false) (disch := (first | omega | (simp only [okR]; done) | (simp only [sizeR] <;> omega) | fail)) only [↓preR, postR, ↓w_stop, Nat.reduceEqDiff, Nat.reduceAdd, Nat.reduceSub, Nat.reduceMul, Int.reduceNeg, Nat.reduceLT, Int.reduceToNat, Nat.reduceLeDiff, Nat.sub_zero])
    refine join_now ?_
    (try simp (maxSteps := 1000000) (dsimp := false) (disch := (first | omega | (simp only [okR]; done) | (simp only [sizeR] <;> omega) | fail)) only [↓preR, postR, ↓w_stop, Nat.reduceEqDiff, Nat.reduceAdd, Nat.reduceSub, Nat.reduceMul, Int.reduceNeg, Nat.reduceLT, Int.reduceToNat, Nat.reduceLeDiff, Nat.sub_zero, g0, g1])
    refine join_now ?_
    by_cases h0 : 100 < p.1.length
    · have h0' : 100 < (p.1.length : Int) := by omega
      (try simp (maxSteps := 1000000) (dsimp := false) (disch := (first | omega | (simp only [okR]; done) | (simp only [sizeR] <;> omega) | fail)) only [↓preR, postR, ↓w_stop, Nat.reduceEqDiff, Nat.reduceAdd, Nat.reduceSub, Nat.reduceMul, Int.reduceNeg, Nat.reduceLT, Int.reduceToNat, Nat.reduceLeDiff, Nat.sub_zero, g0, h0'])
      exact bad (by unfold few1; rw [decide_eq_false (by omega)]; rfl)
    have h0' : ¬ 100 < (p.1.length : Int) := by omega
    by_cases h1 : 100 < p.2.length
    · have h1' : 100 < (p.2.length : Int) := by omega
      (try simp (maxSteps := 1000000) (dsimp := false) (disch := (first | omega | (simp only [okR]; done) | (simp only [sizeR] <;> omega) | fail)) only [↓preR, postR, ↓w_stop, Nat.reduceEqDiff, Nat.reduceAdd, Nat.reduceSub, Nat.reduceMul, Int.reduceNeg, Nat.reduceLT, Int.reduceToNat, Nat.reduceLeDiff, Nat.sub_zero, g0, g1, h0', h1'])
      exact bad (by unfold few1; rw [decide_eq_false (p := p.2.length ≤ 100) (by omega), Bool.and_false])
    have h1' : ¬ 100 < (p.2.length : Int) := by omega
    (try simp (maxSteps := 1000000) (dsimp := false) (disch := (first | omega | (simp only [okR]; done) | (simp only [sizeR] <;> omega) | fail)) only [↓preR, postR, ↓w_stop, Nat.reduceEqDiff, Nat.reduceAdd, Nat.reduceSub, Nat.reduceMul, Int.reduceNeg, Nat.reduceLT, Int.reduceToNat, Nat.reduceLeDiff, Nat.sub_zero, g0, g1, h0', h1'])
    exact hag _ _ _ ⟨j + 1, rfl, rfl, hlt, by rw [hall]; unfold few1; rw [decide_eq_true (by omega), decide_eq_true (by omega)]; rfl, rfl⟩ (by omega)
  · (try simp (maxSteps := 1000000) (dsimp := false) (disch := (first | omega | (simp only [okR]; done) | (simp only [sizeR] <;> omega) | fail)) only [↓preR, postR, ↓w_stop, Nat.reduceEqDiff, Nat.reduceAdd, Nat.reduceSub, Nat.reduceMul, Int.reduceNeg, Nat.reduceLT, Int.reduceToNat, Nat.reduceLeDiff, Nat.sub_zero])
    refine join_now ?_
    (try simp (maxSteps := 1000000) (dsimp := false) (disch := (first | omega | (simp only [okR]; done) | (simp only [sizeR] <;> omega) | fail)) only [↓preR, postR, ↓w_stop, Nat.reduceEqDiff, Nat.reduceAdd, Nat.reduceSub, Nat.reduceMul, Int.reduceNeg, Nat.reduceLT, Int.reduceToNat, Nat.reduceLeDiff, Nat.sub_zero])
    have : l.all few1 = true := by rw [hall, List.drop_of_length_le (by omega)]; rfl
    rw [this] at hk
    exact hk
theorem pl_c (hr : RepL X v l) (hl : l.length ≤ 1000000) (h : Hs σ X R) (hk : ∀ u X' σ', Ce.le X X' → RepL X' u l → Hs σ' X' R → k u σ') : kCall Tryz.prog 13 [v] σ k := by
  obtain ⟨va, vb, vo, vcap, rfl, hc, hm, hat⟩ := pair_at hr
  refine f13 ?_
  unfold maxLen at hm
  (try simp (maxSteps := 1000000) (dsimp := false) (disch := (first | omega | (simp only [okR]; done) | (simp only [sizeR] <;> omega) | fail)) only [↓preR, postR, ↓w_stop, Nat.reduceEqDiff, Nat.reduceAdd, Nat.reduceSub, Nat.reduceMul, Int.reduceNeg, Nat.reduceLT, Int.reduceToNat, Nat.reduceLeDiff, Nat.sub_zero, F13])
  refine join_now ?_
  refine loop_inv (fun nn xs s => ∃ (j : Nat) (u : Value), xs = [u, .int .i64 j] ∧ j ≤ l.length ∧ Hs s X (E.Own (α := Str × Str) u (l.take j) :: R) ∧ nn = l.length - j) _ ⟨0, _, rfl, Nat.zero_le _, h.own0, rfl⟩ ?_
  rintro _ _ s again ⟨j, u, rfl, hj, h1, rfl⟩ hag
  by_cases hlt : j < l.length
  · obtain ⟨rfl, c0, c1, m0, m1⟩ := hat j hlt
    have g0 := h1.ldx c0
    have g1 := h1.ldx c1
    have hj2 : (l.take j).length ≤ 1000000 := by rw [List.length_take]; omega
    (try simp (maxSteps := 1000000) (dsimp := false) (disch := (first | omega | (simp only [okR]; done) | (simp only [sizeR] <;> omega) | fail)) only [↓preR, postR, ↓w_stop, Nat.reduceEqDiff, Nat.reduceAdd, Nat.reduceSub, Nat.reduceMul, Int.reduceNeg, Nat.reduceLT, Int.reduceToNat, Nat.reduceLeDiff, Nat.sub_zero])
    refine join_now ?_
    (try simp (maxSteps := 1000000) (dsimp := false) (disch := (first | omega | (simp only [okR]; done) | (simp only [sizeR] <;> omega) | fail)) only [↓preR, postR, ↓w_stop, Nat.reduceEqDiff, Nat.reduceAdd, Nat.reduceSub, Nat.reduceMul, Int.reduceNeg, Nat.reduceLT, Int.reduceToNat, Nat.reduceLeDiff, Nat.sub_zero, g0, g1])
    refine join_now ?_
    (try simp (maxSteps := 1000000) (dsimp := false) (disch := (first | omega | (simp only [okR]; done) | (simp only [sizeR] <;> omega) | fail)) only [↓preR, postR, ↓w_stop, Nat.reduceEqDiff, Nat.reduceAdd, Nat.reduceSub, Nat.reduceMul, Int.reduceNeg, Nat.reduceLT, Int.reduceToNat, Nat.reduceLeDiff, Nat.sub_zero, g0, g1])
    refine push_by h1 (e := 54) (bytes := 32) (by kernel_rfl) (by kernel_rfl) (a := l[j]) (news := [.string (bs l[j].1), .string (bs l[j].2)]) ⟨[.string (bs l[j].1)], [.string (bs l[j].2)], rfl, ⟨rfl, m0⟩, ⟨rfl, m1⟩⟩ (by omega) (by unfold maxLen; omega) fun v' s5 g5 => ?_
    rw [(List.take_succ_eq_append_getElem hlt).symm] at g5
    (try simp (maxSteps := 1000000) (dsimp := false) (disch := (first | omega | (simp only [okR]; done) | (simp only [sizeR] <;> omega) | fail)) only [↓preR, postR, ↓w_stop, Nat.reduceEqDiff, Nat.reduceAdd, Nat.reduceSub, Nat.reduceMul, Int.reduceNeg, Nat.reduceLT, Int.reduceToNat, Nat.reduceLeDiff, Nat.sub_zero])
    exact hag _ _ _ ⟨j + 1, _, rfl, hlt, g5, rfl⟩ (by omega)
  · (try simp (maxSteps := 1000000) (dsimp := false) (disch := (first | omega | (simp only [okR]; done) | (simp only [sizeR] <;> omega) | fail)) only [↓preR, postR, ↓w_stop, Nat.reduceEqDiff, Nat.reduceAdd, Nat.reduceSub, Nat.reduceMul, Int.reduceNeg, Nat.reduceLT, Int.reduceToNat, Nat.reduceLeDiff, Nat.sub_zero])
    refine join_now ?_
    (try simp (maxSteps := 1000000) (dsimp := false) (disch := (first | omega | (simp only [okR]; done) | (simp only [sizeR] <;> omega) | fail)) only [↓preR, postR, ↓w_stop, Nat.reduceEqDiff, Nat.reduceAdd, Nat.reduceSub, Nat.reduceMul, Int.reduceNeg, Nat.reduceLT, Int.reduceToNat, Nat.reduceLeDiff, Nat.sub_zero])
    rw [List.take_of_length_le (by omega)] at h1
    obtain ⟨X', le, hr', h2⟩ := h1.keep
    exact hk _ _ _ le hr' h2
theorem same_c (ha : RepL X v l) (hb : RepL X u l) (h : Hs σ X R) (hk : k (.bool true) σ) : kCall Tryz.prog 14 [v, u] σ k := by
  obtain ⟨a1, b1, o1, c1, rfl, _, hm1, at1⟩ := pair_at ha
  obtain ⟨a2, b2, o2, c2, rfl, _, hm2, at2⟩ := pair_at hb
  refine f14 ?_
  unfold maxLen at hm1 hm2
  (try simp (maxSteps := 1000000) (dsimp := false) (disch := (first | omega | (simp only [okR]; done) | (simp only [sizeR] <;> omega) | fail)) only [↓preR, postR, ↓w_stop, Nat.reduceEqDiff, Nat.reduceAdd, Nat.reduceSub, Nat.reduceMul, Int.reduceNeg, Nat.reduceLT, Int.reduceToNat, Nat.reduceLeDiff, Nat.sub_zero, F14])
  refine join_now ?_
  (try simp (maxSteps := 1000000) (dsimp := false) (disch := (first | omega | (simp only [okR]; done) | (simp only [sizeR] <;> omega) | fail)) only [↓preR, postR, ↓w_stop, Nat.reduceEqDiff, Nat.reduceAdd, Nat.reduceSub, Nat.reduceMul, Int.reduceNeg, Nat.reduceLT, Int.reduceToNat, Nat.reduceLeDiff, Nat.sub_zero])
  refine join_now ?_
  refine loop_inv (fun nn xs s => ∃ j : Nat, xs = [.int .i64 j] ∧ σ = s ∧ j ≤ l.length ∧ nn = l.length - j) _ ⟨0, rfl, rfl, Nat.zero_le _, rfl⟩ ?_
  rintro _ _ s again ⟨j, rfl, rfl, hj, rfl⟩ hag
  by_cases hlt : j < l.length
  · obtain ⟨rfl, x0, x1, _, _⟩ := at1 j hlt
    obtain ⟨rfl, y0, y1, _, _⟩ := at2 j hlt
    have c0 := h.ldx x0
    have c1 := h.ldx x1
    have d0 := h.ldx y0
    have d1 := h.ldx y1
    (try simp (maxSteps := 1000000) (dsimp := false) (disch := (first | omega | (simp only [okR]; done) | (simp only [sizeR] <;> omega) | fail)) only [↓preR, postR, ↓w_stop, Nat.reduceEqDiff, Nat.reduceAdd, Nat.reduceSub, Nat.reduceMul, Int.reduceNeg, Nat.reduceLT, Int.reduceToNat, Nat.reduceLeDiff, Nat.sub_zero])
    refine join_now ?_
    (try simp (maxSteps := 1000000) (dsimp := false) (disch := (first | omega | (simp only [okR]; done) | (simp only [sizeR] <;> omega) | fail)) only [↓preR, postR, ↓w_stop, Nat.reduceEqDiff, Nat.reduceAdd, Nat.reduceSub, Nat.reduceMul, Int.reduceNeg, Nat.reduceLT, Int.reduceToNat, Nat.reduceLeDiff, Nat.sub_zero, c0, c1, d0, d1])
    refine join_now ?_
    (try simp (maxSteps := 1000000) (dsimp := false) (disch := (first | omega | (simp only [okR]; done) | (simp only [sizeR] <;> omega) | fail)) only [↓preR, postR, ↓w_stop, Nat.reduceEqDiff, Nat.reduceAdd, Nat.reduceSub, Nat.reduceMul, Int.reduceNeg, Nat.reduceLT, Int.reduceToNat, Nat.reduceLeDiff, Nat.sub_zero, c0, c1, d0, d1])
    refine sne_by (ks := [.s, .s]) (by kernel_rfl) [.s l[j].1, .s l[j].2] [.s l[j].1, .s l[j].2] rfl rfl ?_
    rw [decide_eq_true rfl]
    (try simp (maxSteps := 1000000) (dsimp := false) (disch := (first | omega | (simp only [okR]; done) | (simp only [sizeR] <;> omega) | fail)) only [↓preR, postR, ↓w_stop, Nat.reduceEqDiff, Nat.reduceAdd, Nat.reduceSub, Nat.reduceMul, Int.reduceNeg, Nat.reduceLT, Int.reduceToNat, Nat.reduceLeDiff, Nat.sub_zero, Bool.not_true])
    exact hag _ _ _ ⟨j + 1, rfl, rfl, hlt, rfl⟩ (by omega)
  · (try simp (maxSteps := 1000000) (dsimp := false) (disch := (first | omega | (simp only [okR]; done) | (simp only [sizeR] <;> omega) | fail)) only [↓preR, postR, ↓w_stop, Nat.reduceEqDiff, Nat.reduceAdd, Nat.reduceSub, Nat.reduceMul, Int.reduceNeg, Nat.reduceLT, Int.reduceToNat, Nat.reduceLeDiff, Nat.sub_zero])
    refine join_now ?_
    (try simp (maxSteps := 1000000) (dsimp := false) (disch := (first | omega | (simp only [okR]; done) | (simp only [sizeR] <;> omega) | fail)) only [↓preR, postR, ↓w_stop, Nat.reduceEqDiff, Nat.reduceAdd, Nat.reduceSub, Nat.reduceMul, Int.reduceNeg, Nat.reduceLT, Int.reduceToNat, Nat.reduceLeDiff, Nat.sub_zero])
    exact hk
end
end Go.Proofs.YtkbpbagjbjkpmaaGreatDoor
