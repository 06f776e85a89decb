/- What each call answers, call by call: ProcsPlays. Conditions: as each theorem says. -/
import Derived.Test.YtkponloccimdlaaPrQ
namespace Go.Proofs.Ytkponloccimdlaa
open E Go.Lib PT
set_option linter.unusedVariables false
set_option linter.unusedSimpArgs false
set_option maxHeartbeats 1000000
set_option maxRecDepth 20000

section
variable {σ σ' : AS} {X : Ce} {R : List Ck} {k : Value → AS → Prop} {t r : Nat} {most : Int} {l : Tl}
theorem plays_walk {v0 : Value} {ops : List Op3} {m : Int} (hm : inI64 m) (hin : ∀ o, o ∈ ops → inI64 o.2.2) (h0 : RepL X v0 ops) (h : Hs σ X []) : kCall Try.prog 5 [.int .i64 m, v0] σ fun v _ => v = .bool true := by
  obtain ⟨va, vb, vo, vc, rfl, hle, hmx, hat⟩ := ops_get h0
  unfold maxLen at hmx
  refine f5 ?_
  (try simp (maxSteps := 1000000) (dsimp := false) (disch := (first | omega | (simp only [okR]; done) | (simp only [sizeR] <;> omega) | fail)) only [↓preR, postR, ↓w_stop, Nat.reduceEqDiff, Nat.reduceAdd, Nat.reduceSub, Nat.reduceMul, Int.reduceNeg, Nat.reduceLT, Int.reduceToNat, Nat.reduceLeDiff, Nat.sub_zero, F5])
  refine new_c h (fun t r σ1 hm1 hm2 h1 => ?_) (fun hb => ?_)
  rotate_left
  · (try simp (maxSteps := 1000000) (dsimp := false) (disch := (first | omega | (simp only [okR]; done) | (simp only [sizeR] <;> omega) | fail)) only [↓preR, postR, ↓w_stop, Nat.reduceEqDiff, Nat.reduceAdd, Nat.reduceSub, Nat.reduceMul, Int.reduceNeg, Nat.reduceLT, Int.reduceToNat, Nat.reduceLeDiff, Nat.sub_zero])
    refine rnew_c h (fun r g N σ2 h3 h4 h5 h6 => by omega) (fun _ => ?_)
    (try simp (maxSteps := 1000000) (dsimp := false) (disch := (first | omega | (simp only [okR]; done) | (simp only [sizeR] <;> omega) | fail)) only [↓preR, postR, ↓w_join, Nat.reduceEqDiff, Nat.reduceAdd, Nat.reduceSub, Nat.reduceMul, Int.reduceNeg, Nat.reduceLT, Int.reduceToNat, Nat.reduceLeDiff, Nat.sub_zero])
    refine awake_c h fun σ5 => ?_
    (try simp (maxSteps := 1000000) (dsimp := false) (disch := (first | omega | (simp only [okR]; done) | (simp only [sizeR] <;> omega) | fail)) only [↓preR, postR, ↓w_join, Nat.reduceEqDiff, Nat.reduceAdd, Nat.reduceSub, Nat.reduceMul, Int.reduceNeg, Nat.reduceLT, Int.reduceToNat, Nat.reduceLeDiff, Nat.sub_zero])
  (try simp (maxSteps := 1000000) (dsimp := false) (disch := (first | omega | (simp only [okR]; done) | (simp only [sizeR] <;> omega) | fail)) only [↓preR, postR, ↓w_stop, Nat.reduceEqDiff, Nat.reduceAdd, Nat.reduceSub, Nat.reduceMul, Int.reduceNeg, Nat.reduceLT, Int.reduceToNat, Nat.reduceLeDiff, Nat.sub_zero])
  refine rnew_c h1 (fun rr g N σ2 h3 h4 h5 h6 => ?_) (fun hb => by omega)
  subst h3
  (try simp (maxSteps := 1000000) (dsimp := false) (disch := (first | omega | (simp only [okR]; done) | (simp only [sizeR] <;> omega) | fail)) only [↓preR, postR, ↓w_stop, Nat.reduceEqDiff, Nat.reduceAdd, Nat.reduceSub, Nat.reduceMul, Int.reduceNeg, Nat.reduceLT, Int.reduceToNat, Nat.reduceLeDiff, Nat.sub_zero])
  refine join_by fun J1 hJ1 => ?_
  (try simp (maxSteps := 1000000) (dsimp := false) (disch := (first | omega | (simp only [okR]; done) | (simp only [sizeR] <;> omega) | fail)) only [↓preR, postR, ↓w_stop, Nat.reduceEqDiff, Nat.reduceAdd, Nat.reduceSub, Nat.reduceMul, Int.reduceNeg, Nat.reduceLT, Int.reduceToNat, Nat.reduceLeDiff, Nat.sub_zero])
  refine hJ1 _ _ ?_
  clear hJ1
  (try simp (maxSteps := 1000000) (dsimp := false) (disch := (first | omega | (simp only [okR]; done) | (simp only [sizeR] <;> omega) | fail)) only [↓preR, postR, ↓w_stop, Nat.reduceEqDiff, Nat.reduceAdd, Nat.reduceSub, Nat.reduceMul, Int.reduceNeg, Nat.reduceLT, Int.reduceToNat, Nat.reduceLeDiff, Nat.sub_zero])
  refine join_by fun J2 hJ2 => ?_
  (try simp (maxSteps := 1000000) (dsimp := false) (disch := (first | omega | (simp only [okR]; done) | (simp only [sizeR] <;> omega) | fail)) only [↓preR, postR, ↓w_stop, Nat.reduceEqDiff, Nat.reduceAdd, Nat.reduceSub, Nat.reduceMul, Int.reduceNeg, Nat.reduceLT, Int.reduceToNat, Nat.reduceLeDiff, Nat.sub_zero])
  refine hJ2 _ _ ?_
  clear hJ2
  (try simp (maxSteps := 1000000) (dsimp := false) (disch := (first | omega | (simp only [okR]; done) | (simp only [sizeR] <;> omega) | fail)) only [↓preR, postR, ↓w_stop, Nat.reduceEqDiff, Nat.reduceAdd, Nat.reduceSub, Nat.reduceMul, Int.reduceNeg, Nat.reduceLT, Int.reduceToNat, Nat.reduceLeDiff, Nat.sub_zero])
  refine join_by fun J3 hJ3 => ?_
  have h7 : Hs σ2 X (TH t r N none [] (RT rr g N (vw []) [])) := (h6.front 4 rfl).front 4 rfl |>.front 4 rfl
  have fin : ∀ s l, Hs s X (TH t r N none l (RT rr g N (vw l) [])) → J3 [] s := by
    intro s l h
    refine hJ3 _ _ ?_
    (try simp (maxSteps := 1000000) (dsimp := false) (disch := (first | omega | (simp only [okR]; done) | (simp only [sizeR] <;> omega) | fail)) only [↓preR, postR, ↓w_stop, Nat.reduceEqDiff, Nat.reduceAdd, Nat.reduceSub, Nat.reduceMul, Int.reduceNeg, Nat.reduceLT, Int.reduceToNat, Nat.reduceLeDiff, Nat.sub_zero])
    refine awake_c h fun σ5 => ?_
    (try simp (maxSteps := 1000000) (dsimp := false) (disch := (first | omega | (simp only [okR]; done) | (simp only [sizeR] <;> omega) | fail)) only [↓preR, postR, ↓w_join, Nat.reduceEqDiff, Nat.reduceAdd, Nat.reduceSub, Nat.reduceMul, Int.reduceNeg, Nat.reduceLT, Int.reduceToNat, Nat.reduceLeDiff, Nat.sub_zero])
  clear hJ3
  refine loop_inv (fun n xs s => ∃ (i : Nat) (l : Tl), xs = [.int .i64 i] ∧ i ≤ 100 ∧ i ≤ ops.length ∧ Hs s X (TH t r N none l (RT rr g N (vw l) [])) ∧ Inv (vw l) N ∧ n = 100 - i) _ ⟨0, [], rfl, by omega, by omega, h7, PV.inv_zero, rfl⟩ ?_
  rintro n _ s again ⟨i, l, rfl, hi, hil, h8, hinv, rfl⟩ hag
  (try simp (maxSteps := 1000000) (dsimp := false) (disch := (first | omega | (simp only [okR]; done) | (simp only [sizeR] <;> omega) | fail)) only [↓preR, postR, ↓w_stop, Nat.reduceEqDiff, Nat.reduceAdd, Nat.reduceSub, Nat.reduceMul, Int.reduceNeg, Nat.reduceLT, Int.reduceToNat, Nat.reduceLeDiff, Nat.sub_zero])
  refine join_now ?_
  by_cases hc : i < ops.length ∧ i < 100
  rotate_left
  · by_cases hlt : i < ops.length
    · have hl' : (i : Int) < ops.length := by omega
      have : ¬ (i : Int) < 100 := by omega
      (try simp (maxSteps := 1000000) (dsimp := false) (disch := (first | omega | (simp only [okR]; done) | (simp only [sizeR] <;> omega) | fail)) only [↓preR, postR, ↓w_stop, Nat.reduceEqDiff, Nat.reduceAdd, Nat.reduceSub, Nat.reduceMul, Int.reduceNeg, Nat.reduceLT, Int.reduceToNat, Nat.reduceLeDiff, Nat.sub_zero])
      exact fin _ _ h8
    · have hl' : ¬ (i : Int) < ops.length := by omega
      (try simp (maxSteps := 1000000) (dsimp := false) (disch := (first | omega | (simp only [okR]; done) | (simp only [sizeR] <;> omega) | fail)) only [↓preR, postR, ↓w_stop, Nat.reduceEqDiff, Nat.reduceAdd, Nat.reduceSub, Nat.reduceMul, Int.reduceNeg, Nat.reduceLT, Int.reduceToNat, Nat.reduceLeDiff, Nat.sub_zero])
      exact fin _ _ h8
  obtain ⟨hlt, h100⟩ := hc
  obtain ⟨rfl, x0, x1, x2⟩ := hat i hlt
  have hnn := hin _ (List.getElem_mem hlt)
  have y0 := h8.ldx x0
  have y1 := h8.ldx x1
  have y2 := h8.ldx x2
  have hl' : (i : Int) < ops.length := by omega
  (try simp (maxSteps := 1000000) (dsimp := false) (disch := (first | omega | (simp only [okR]; done) | (simp only [sizeR] <;> omega) | fail)) only [↓preR, postR, ↓w_stop, Nat.reduceEqDiff, Nat.reduceAdd, Nat.reduceSub, Nat.reduceMul, Int.reduceNeg, Nat.reduceLT, Int.reduceToNat, Nat.reduceLeDiff, Nat.sub_zero])
  refine join_by fun J6 hJ6 => ?_
  (try simp (maxSteps := 1000000) (dsimp := false) (disch := (first | omega | (simp only [okR]; done) | (simp only [sizeR] <;> omega) | fail)) only [↓preR, postR, ↓w_stop, Nat.reduceEqDiff, Nat.reduceAdd, Nat.reduceSub, Nat.reduceMul, Int.reduceNeg, Nat.reduceLT, Int.reduceToNat, Nat.reduceLeDiff, Nat.sub_zero, y0, y1, y2])
  generalize ops[i].1 = ask at x0 x1 x2 y0 y1 y2 ⊢
  generalize ops[i].2.1 = p at x0 x1 x2 y0 y1 y2 ⊢
  generalize ops[i].2.2 = nn at x0 x1 x2 y0 y1 y2 hnn ⊢
  refine do2_c h8 hinv (by omega) fun a b e l' σ3 hdo h9 => ?_
  have hinv' := hdo.inv hinv
  have z0 := h9.ldx x0
  have z1 := h9.ldx x1
  have z2 := h9.ldx x2
  (try simp (maxSteps := 1000000) (dsimp := false) (disch := (first | omega | (simp only [okR]; done) | (simp only [sizeR] <;> omega) | fail)) only [↓preR, postR, ↓w_stop, Nat.reduceEqDiff, Nat.reduceAdd, Nat.reduceSub, Nat.reduceMul, Int.reduceNeg, Nat.reduceLT, Int.reduceToNat, Nat.reduceLeDiff, Nat.sub_zero, z0, z1, z2])
  have h10 : Hs σ3 X (RT rr g N (vw l) (TH t r N none l' [])) := (h9.front 4 rfl).front 4 rfl
  refine rplain_c hdo hinv h10 (by omega) hnn fun σ4 h11 => ?_
  (try simp (maxSteps := 1000000) (dsimp := false) (disch := (first | omega | (simp only [okR]; done) | (simp only [sizeR] <;> omega) | fail)) only [↓preR, postR, ↓w_stop, Nat.reduceEqDiff, Nat.reduceAdd, Nat.reduceSub, Nat.reduceMul, Int.reduceNeg, Nat.reduceLT, Int.reduceToNat, Nat.reduceLeDiff, Nat.sub_zero])
  refine join_by fun J8 hJ8 => ?_
  have h12 : Hs σ4 X (TH t r N none l' (RT rr g N (vw l') [])) := (h11.front 4 rfl).front 4 rfl |>.front 4 rfl
  (try simp (maxSteps := 1000000) (dsimp := false) (disch := (first | omega | (simp only [okR]; done) | (simp only [sizeR] <;> omega) | fail)) only [↓preR, postR, ↓w_stop, Nat.reduceEqDiff, Nat.reduceAdd, Nat.reduceSub, Nat.reduceMul, Int.reduceNeg, Nat.reduceLT, Int.reduceToNat, Nat.reduceLeDiff, Nat.sub_zero])
  have hlen : l'.length = cnt (vw l') N := len_cnt h12.tnd (most := N) (fun i c hc => hinv'.keys i c hc)
  have hcn := cnt_le (vw l') N
  refine many_c h12 ?_
  (try simp (maxSteps := 1000000) (dsimp := false) (disch := (first | omega | (simp only [okR]; done) | (simp only [sizeR] <;> omega) | fail)) only [↓preR, postR, ↓w_stop, Nat.reduceEqDiff, Nat.reduceAdd, Nat.reduceSub, Nat.reduceMul, Int.reduceNeg, Nat.reduceLT, Int.reduceToNat, Nat.reduceLeDiff, Nat.sub_zero])
  refine rmany_c hinv'.rg h11 (by omega) fun σ5 h13 => ?_
  rw [hlen]
  (try simp (maxSteps := 1000000) (dsimp := false) (disch := (first | omega | (simp only [okR]; done) | (simp only [sizeR] <;> omega) | fail)) only [↓preR, postR, ↓w_stop, Nat.reduceEqDiff, Nat.reduceAdd, Nat.reduceSub, Nat.reduceMul, Int.reduceNeg, Nat.reduceLT, Int.reduceToNat, Nat.reduceLeDiff, Nat.sub_zero])
  refine hJ8 _ _ ?_
  clear hJ8
  have h14 : Hs σ5 X (TH t r N none l' (RT rr g N (vw l') [])) := (h13.front 4 rfl).front 4 rfl |>.front 4 rfl
  clear h13 h12 h11 h10 h9 h8 z0 z1 z2 y0 y1 y2
  have nxt : ∀ s', Hs s' X (TH t r N none l' (RT rr g N (vw l') [])) → J6 [] s' := by
    intro s' h'
    refine hJ6 _ _ ?_
    (try simp (maxSteps := 1000000) (dsimp := false) (disch := (first | omega | (simp only [okR]; done) | (simp only [sizeR] <;> omega) | fail)) only [↓preR, postR, ↓w_stop, Nat.reduceEqDiff, Nat.reduceAdd, Nat.reduceSub, Nat.reduceMul, Int.reduceNeg, Nat.reduceLT, Int.reduceToNat, Nat.reduceLeDiff, Nat.sub_zero])
    exact hag _ _ _ ⟨i + 1, l', rfl, by omega, by omega, h', hinv', rfl⟩ (by omega)
  clear hJ6 hag
  (try simp (maxSteps := 1000000) (dsimp := false) (disch := (first | omega | (simp only [okR]; done) | (simp only [sizeR] <;> omega) | fail)) only [↓preR, postR, ↓w_stop, Nat.reduceEqDiff, Nat.reduceAdd, Nat.reduceSub, Nat.reduceMul, Int.reduceNeg, Nat.reduceLT, Int.reduceToNat, Nat.reduceLeDiff, Nat.sub_zero])
  refine join_by fun J9 hJ9 => ?_
  refine loop_inv (fun n xs s => ∃ q : Nat, xs = [.int .i64 ((q : Int) - 1)] ∧ q ≤ 21 ∧ Hs s X (TH t r N none l' (RT rr g N (vw l') [])) ∧ n = 21 - q) _ ⟨0, rfl, by omega, h14, rfl⟩ ?_
  rintro _ _ s6 again2 ⟨q, rfl, hq, h15, rfl⟩ hag2
  (try simp (maxSteps := 1000000) (dsimp := false) (disch := (first | omega | (simp only [okR]; done) | (simp only [sizeR] <;> omega) | fail)) only [↓preR, postR, ↓w_stop, Nat.reduceEqDiff, Nat.reduceAdd, Nat.reduceSub, Nat.reduceMul, Int.reduceNeg, Nat.reduceLT, Int.reduceToNat, Nat.reduceLeDiff, Nat.sub_zero])
  refine join_now ?_
  by_cases hq21 : q < 21
  · (try simp (maxSteps := 1000000) (dsimp := false) (disch := (first | omega | (simp only [okR]; done) | (simp only [sizeR] <;> omega) | fail)) only [↓preR, postR, ↓w_stop, Nat.reduceEqDiff, Nat.reduceAdd, Nat.reduceSub, Nat.reduceMul, Int.reduceNeg, Nat.reduceLT, Int.reduceToNat, Nat.reduceLeDiff, Nat.sub_zero])
    refine join_by fun J15 hJ15 => ?_
    refine state_c h15 fun σ7 h16 => ?_
    have h17 : Hs σ7 X (RT rr g N (vw l') (TH t r N none l' [])) := (h16.front 4 rfl).front 4 rfl
    (try simp (maxSteps := 1000000) (dsimp := false) (disch := (first | omega | (simp only [okR]; done) | (simp only [sizeR] <;> omega) | fail)) only [↓preR, postR, ↓w_stop, Nat.reduceEqDiff, Nat.reduceAdd, Nat.reduceSub, Nat.reduceMul, Int.reduceNeg, Nat.reduceLT, Int.reduceToNat, Nat.reduceLeDiff, Nat.sub_zero])
    refine rget_c hinv'.rg h17 (by omega) fun σ8 h18 => ?_
    (try simp (maxSteps := 1000000) (dsimp := false) (disch := (first | omega | (simp only [okR]; done) | (simp only [sizeR] <;> omega) | fail)) only [↓preR, postR, ↓w_stop, Nat.reduceEqDiff, Nat.reduceAdd, Nat.reduceSub, Nat.reduceMul, Int.reduceNeg, Nat.reduceLT, Int.reduceToNat, Nat.reduceLeDiff, Nat.sub_zero, prC])
    have h19 : Hs σ8 X (TH t r N none l' (RT rr g N (vw l') [])) := (h18.front 4 rfl).front 4 rfl |>.front 4 rfl
    refine parent_c h19 fun σ9 h20 => ?_
    have h21 : Hs σ9 X (RT rr g N (vw l') (TH t r N none l' [])) := (h20.front 4 rfl).front 4 rfl
    (try simp (maxSteps := 1000000) (dsimp := false) (disch := (first | omega | (simp only [okR]; done) | (simp only [sizeR] <;> omega) | fail)) only [↓preR, postR, ↓w_stop, Nat.reduceEqDiff, Nat.reduceAdd, Nat.reduceSub, Nat.reduceMul, Int.reduceNeg, Nat.reduceLT, Int.reduceToNat, Nat.reduceLeDiff, Nat.sub_zero])
    refine rget_c hinv'.rg h21 (by omega) fun σ10 h22 => ?_
    (try simp (maxSteps := 1000000) (dsimp := false) (disch := (first | omega | (simp only [okR]; done) | (simp only [sizeR] <;> omega) | fail)) only [↓preR, postR, ↓w_stop, Nat.reduceEqDiff, Nat.reduceAdd, Nat.reduceSub, Nat.reduceMul, Int.reduceNeg, Nat.reduceLT, Int.reduceToNat, Nat.reduceLeDiff, Nat.sub_zero, prC])
    refine hJ15 _ _ ?_
    (try simp (maxSteps := 1000000) (dsimp := false) (disch := (first | omega | (simp only [okR]; done) | (simp only [sizeR] <;> omega) | fail)) only [↓preR, postR, ↓w_stop, Nat.reduceEqDiff, Nat.reduceAdd, Nat.reduceSub, Nat.reduceMul, Int.reduceNeg, Nat.reduceLT, Int.reduceToNat, Nat.reduceLeDiff, Nat.sub_zero])
    exact hag2 _ _ _ ⟨q + 1, by simp, by omega, (h22.front 4 rfl).front 4 rfl |>.front 4 rfl, rfl⟩ (by omega)
  · (try simp (maxSteps := 1000000) (dsimp := false) (disch := (first | omega | (simp only [okR]; done) | (simp only [sizeR] <;> omega) | fail)) only [↓preR, postR, ↓w_stop, Nat.reduceEqDiff, Nat.reduceAdd, Nat.reduceSub, Nat.reduceMul, Int.reduceNeg, Nat.reduceLT, Int.reduceToNat, Nat.reduceLeDiff, Nat.sub_zero])
    refine hJ9 _ _ ?_
    (try simp (maxSteps := 1000000) (dsimp := false) (disch := (first | omega | (simp only [okR]; done) | (simp only [sizeR] <;> omega) | fail)) only [↓preR, postR, ↓w_stop, Nat.reduceEqDiff, Nat.reduceAdd, Nat.reduceSub, Nat.reduceMul, Int.reduceNeg, Nat.reduceLT, Int.reduceToNat, Nat.reduceLeDiff, Nat.sub_zero])
    refine ready_c h15 hinv' (by omega) fun u σ7 h16 => ?_
    (try simp (maxSteps := 1000000) (dsimp := false) (disch := (first | omega | (simp only [okR]; done) | (simp only [sizeR] <;> omega) | fail)) only [↓preR, postR, ↓w_stop, Nat.reduceEqDiff, Nat.reduceAdd, Nat.reduceSub, Nat.reduceMul, Int.reduceNeg, Nat.reduceLT, Int.reduceToNat, Nat.reduceLeDiff, Nat.sub_zero])
    have h17 : Hs σ7 X (RT rr g N (vw l') (E.Own (α := Int) u (readyL (vw l') N) :: TH t r N none l' [])) := (h16.front 5 rfl).front 5 rfl
    refine rready_c h17 (by omega) fun u2 σ8 h18 => ?_
    have h19 : Hs σ8 X (E.Own (α := Int) u (readyL (vw l') N) :: E.Own (α := Int) u2 (readyL (vw l') N) :: RT rr g N (vw l') (TH t r N none l' [])) := h18.front 3 rfl
    have hrl := readyL_len (vw l') N
    have h20 : Hs σ8 X (TH t r N none l' (RT rr g N (vw l') [])) := (((h18.drop).front 2 rfl).drop.front 4 rfl).front 4 rfl |>.front 4 rfl
    generalize readyL (vw l') N = L at h18 h19 hrl
    obtain ⟨x1', c1', hu1, _⟩ := h19.own
    obtain ⟨x2', c2', hu2, _⟩ := h18.own
    have at1 : ∀ (j : Nat) (hj : j < L.length), ∃ g1 cs, x1' = some ⟨g1, 0, none⟩ ∧ σ8.m g1 = some (.cells cs) ∧ cs[j]? = some (.int .i64 L[j]) := by
      intro j hj
      rcases own_cel h19 with ⟨_, h0⟩ | ⟨g1, cap, sp, e1, _, h21, _⟩
      · subst h0; cases hj
      · rw [hu1] at e1
        injection e1 with e1 _ _
        refine ⟨g1, _, e1, h21.obj, ?_⟩
        rw [List.getElem?_append_left (by simpa using hj), List.getElem?_map, List.getElem?_eq_getElem hj]
        rfl
    have at2 : ∀ (j : Nat) (hj : j < L.length), ∃ g1 cs, x2' = some ⟨g1, 0, none⟩ ∧ σ8.m g1 = some (.cells cs) ∧ cs[j]? = some (.int .i64 L[j]) := by
      intro j hj
      rcases own_cel h18 with ⟨_, h0⟩ | ⟨g1, cap, sp, e1, _, h21, _⟩
      · subst h0; cases hj
      · rw [hu2] at e1
        injection e1 with e1 _ _
        refine ⟨g1, _, e1, h21.obj, ?_⟩
        rw [List.getElem?_append_left (by simpa using hj), List.getElem?_map, List.getElem?_eq_getElem hj]
        rfl
    subst hu1
    subst hu2
    clear h18 h19 h17 h16
    (try simp (maxSteps := 1000000) (dsimp := false) (disch := (first | omega | (simp only [okR]; done) | (simp only [sizeR] <;> omega) | fail)) only [↓preR, postR, ↓w_stop, Nat.reduceEqDiff, Nat.reduceAdd, Nat.reduceSub, Nat.reduceMul, Int.reduceNeg, Nat.reduceLT, Int.reduceToNat, Nat.reduceLeDiff, Nat.sub_zero])
    refine join_by fun J10 hJ10 => ?_
    (try simp (maxSteps := 1000000) (dsimp := false) (disch := (first | omega | (simp only [okR]; done) | (simp only [sizeR] <;> omega) | fail)) only [↓preR, postR, ↓w_stop, Nat.reduceEqDiff, Nat.reduceAdd, Nat.reduceSub, Nat.reduceMul, Int.reduceNeg, Nat.reduceLT, Int.reduceToNat, Nat.reduceLeDiff, Nat.sub_zero])
    refine hJ10 _ _ ?_
    clear hJ10
    (try simp (maxSteps := 1000000) (dsimp := false) (disch := (first | omega | (simp only [okR]; done) | (simp only [sizeR] <;> omega) | fail)) only [↓preR, postR, ↓w_stop, Nat.reduceEqDiff, Nat.reduceAdd, Nat.reduceSub, Nat.reduceMul, Int.reduceNeg, Nat.reduceLT, Int.reduceToNat, Nat.reduceLeDiff, Nat.sub_zero])
    refine loop_inv (fun n xs s => ∃ j : Nat, xs = [.int .i64 j] ∧ j ≤ L.length ∧ s = σ8 ∧ n = L.length - j) _ ⟨0, rfl, by omega, rfl, rfl⟩ ?_
    rintro _ _ s9 again3 ⟨j, rfl, hj, rfl, rfl⟩ hag3
    (try simp (maxSteps := 1000000) (dsimp := false) (disch := (first | omega | (simp only [okR]; done) | (simp only [sizeR] <;> omega) | fail)) only [↓preR, postR, ↓w_stop, Nat.reduceEqDiff, Nat.reduceAdd, Nat.reduceSub, Nat.reduceMul, Int.reduceNeg, Nat.reduceLT, Int.reduceToNat, Nat.reduceLeDiff, Nat.sub_zero])
    refine join_now ?_
    by_cases hjl : j < L.length
    · obtain ⟨g1, cs1, rfl, m1, k1⟩ := at1 j hjl
      obtain ⟨g2, cs2, rfl, m2, k2⟩ := at2 j hjl
      (try simp (maxSteps := 1000000) (dsimp := false) (disch := (first | omega | (simp only [okR]; done) | (simp only [sizeR] <;> omega) | fail)) only [↓preR, postR, ↓w_stop, Nat.reduceEqDiff, Nat.reduceAdd, Nat.reduceSub, Nat.reduceMul, Int.reduceNeg, Nat.reduceLT, Int.reduceToNat, Nat.reduceLeDiff, Nat.sub_zero])
      refine join_now ?_
      (try simp (maxSteps := 1000000) (dsimp := false) (disch := (first | omega | (simp only [okR]; done) | (simp only [sizeR] <;> omega) | fail)) only [↓preR, postR, ↓w_stop, Nat.reduceEqDiff, Nat.reduceAdd, Nat.reduceSub, Nat.reduceMul, Int.reduceNeg, Nat.reduceLT, Int.reduceToNat, Nat.reduceLeDiff, Nat.sub_zero, m1, m2, k1, k2])
      exact hag3 _ _ _ ⟨j + 1, rfl, by omega, rfl, rfl⟩ (by omega)
    · (try simp (maxSteps := 1000000) (dsimp := false) (disch := (first | omega | (simp only [okR]; done) | (simp only [sizeR] <;> omega) | fail)) only [↓preR, postR, ↓w_stop, Nat.reduceEqDiff, Nat.reduceAdd, Nat.reduceSub, Nat.reduceMul, Int.reduceNeg, Nat.reduceLT, Int.reduceToNat, Nat.reduceLeDiff, Nat.sub_zero])
      exact nxt _ h20
theorem ops_in {c : Ce} {v : Value} {l : List Op3} (h : RepL c v l) : ∀ o, o ∈ l → inI64 o.2.2 := by
  intro o ho
  obtain ⟨i, hi, rfl⟩ := List.getElem_of_mem ho
  obtain ⟨a, b, of, cap, _, _, _, hat⟩ := h.get
  obtain ⟨_, cs, hr, _⟩ := hat i hi
  obtain ⟨x, y, _, _, h2⟩ := hr
  obtain ⟨x2, y2, _, _, h3⟩ := h2
  exact h3.2
theorem plays_law {w : World} {v0 v1 : Value} (A0 : OV (E.start w).c (shOf Try.prog 8 3) v0) (A1 : OV (E.start w).c (shOf Try.prog 8 22) v1) : kCall Try.prog 5 [v0, v1] (E.start w) fun v _ => v = .bool true := by
  rw [show shOf Try.prog 8 3 = .int .i64 from by kernel_rfl] at A0
  obtain ⟨m, rfl, hm⟩ := arg_int A0
  obtain ⟨l, hl⟩ := ops_arg A1
  exact plays_walk hm (ops_in hl) hl (Hs.start w)
end
end Go.Proofs.Ytkponloccimdlaa
