/- Patterns: Match, Front, Back, in the program and in the reference. Conditions: as each theorem says. -/
import Derived.Test.YtgkhdiahncemcaaGlH
namespace Go.Proofs.Ytgkhdiahncemcaa
open E Go.Lib
set_option linter.unusedVariables false
set_option linter.unusedSimpArgs false
set_option maxHeartbeats 1000000
set_option maxRecDepth 20000

theorem pick_congr {p q : Nat → Bool} {longest : Bool} : ∀ {n : Nat}, (∀ i, i < n → p i = q i) → pick p longest n = pick q longest n
  | 0, _ => rfl
  | n + 1, h => by
    have ih := pick_congr (p := p) (q := q) (longest := longest) (n := n) (fun i hi => h i (by omega))
    simp only [pick, ih, h n (by omega)]
section
variable {σ σ' : AS} {X : Ce} {R : List Ck} {k : Value → AS → Prop} {l a b : List Tok} {u v va vb : Value} {c b1 : UInt8} {kd : Int} {nt : Bool} {p : Nat} {rs : List (UInt8 × UInt8)} {s : Str} {longest : Bool}
theorem match_c (hl : RepL X v l) (hs : s.length ≤ 1000000) (h : Hs σ X R) (hk : ∀ σ', Hs σ' X R → k (.bool (matchL l s)) σ') : kCall Try.prog 15 [v, .string (bs s)] σ k := by
  refine f15 ?_
  (simp (maxSteps := 1000000) (dsimp := false) (disch := (first | omega | (simp only [okR]; done) | (simp only [sizeR] <;> omega) | fail)) only [↓preR, postR, ↓w_join, Nat.reduceEqDiff, Nat.reduceAdd, Nat.reduceSub, Nat.reduceMul, Int.reduceNeg, Nat.reduceLT, Int.reduceToNat, Nat.reduceLeDiff, Nat.sub_zero, F15])
  refine reach_c hl hs h fun p s2 h2 => ?_
  have c1 := rowV_get (l := reachL l s) (i := s.length) (by rw [reachL_len]; omega)
  (simp (maxSteps := 1000000) (dsimp := false) (disch := (first | omega | (simp only [okR]; done) | (simp only [sizeR] <;> omega) | fail)) only [↓preR, postR, ↓w_join, Nat.reduceEqDiff, Nat.reduceAdd, Nat.reduceSub, Nat.reduceMul, Int.reduceNeg, Nat.reduceLT, Int.reduceToNat, Nat.reduceLeDiff, Nat.sub_zero, h2.obj, c1])
  exact hk _ h2.drop
theorem front_c (hl : RepL X v l) (hs : s.length ≤ 1000000) (h : Hs σ X R) (hk : ∀ σ', Hs σ' X R → k (.int .i64 (frontL l s longest)) σ') : kCall Try.prog 19 [v, .string (bs s), .bool longest] σ k := by
  refine f19 ?_
  (try simp (maxSteps := 1000000) (dsimp := false) (disch := (first | omega | (simp only [okR]; done) | (simp only [sizeR] <;> omega) | fail)) only [↓preR, postR, ↓w_stop, Nat.reduceEqDiff, Nat.reduceAdd, Nat.reduceSub, Nat.reduceMul, Int.reduceNeg, Nat.reduceLT, Int.reduceToNat, Nat.reduceLeDiff, Nat.sub_zero, F19])
  refine join_now ?_
  (try simp (maxSteps := 1000000) (dsimp := false) (disch := (first | omega | (simp only [okR]; done) | (simp only [sizeR] <;> omega) | fail)) only [↓preR, postR, ↓w_stop, Nat.reduceEqDiff, Nat.reduceAdd, Nat.reduceSub, Nat.reduceMul, Int.reduceNeg, Nat.reduceLT, Int.reduceToNat, Nat.reduceLeDiff, Nat.sub_zero])
  refine reach_c hl hs h fun p s2 h2 => ?_
  (try simp (maxSteps := 1000000) (dsimp := false) (disch := (first | omega | (simp only [okR]; done) | (simp only [sizeR] <;> omega) | fail)) only [↓preR, postR, ↓w_stop, Nat.reduceEqDiff, Nat.reduceAdd, Nat.reduceSub, Nat.reduceMul, Int.reduceNeg, Nat.reduceLT, Int.reduceToNat, Nat.reduceLeDiff, Nat.sub_zero])
  have hrl := reachL_len l s
  refine loop_inv (fun nn xs s1 => ∃ j : Nat, xs = [.int .i64 (pick (fun n => (reachL l s)[n]?.getD false) longest j), .int .i64 j] ∧ s2 = s1 ∧ j ≤ s.length + 1 ∧ nn = s.length + 1 - j) _ ⟨0, rfl, rfl, Nat.zero_le _, rfl⟩ ?_
  rintro _ _ s1 again ⟨j, rfl, rfl, hj, rfl⟩ hag
  by_cases hlt : j < s.length + 1
  · have c1 := rowV_get (l := reachL l s) (i := j) (by omega)
    have hag3 := hag (s.length + 1 - (j + 1)) _ s2 ⟨j + 1, rfl, rfl, by omega, rfl⟩ (by omega)
    have e : pick (fun n => (reachL l s)[n]?.getD false) longest (j + 1) = if (reachL l s)[j]?.getD false && (decide (pick (fun n => (reachL l s)[n]?.getD false) longest j < 0) || longest) then (j : Int) else pick (fun n => (reachL l s)[n]?.getD false) longest j := rfl
    rw [e] at hag3
    clear hag e
    generalize pick (fun n => (reachL l s)[n]?.getD false) longest j = at_ at hag3 ⊢
    rw [show ((j + 1 : Nat) : Int) = (j : Int) + 1 from by omega] at hag3
    generalize (reachL l s)[j]?.getD false = b at c1 hag3
    cases b with
    | false =>
      (simp (maxSteps := 1000000) (dsimp := false) (disch := (first | omega | (simp only [okR]; done) | (simp only [sizeR] <;> omega) | fail)) only [↓preR, postR, ↓w_join, Nat.reduceEqDiff, Nat.reduceAdd, Nat.reduceSub, Nat.reduceMul, Int.reduceNeg, Nat.reduceLT, Int.reduceToNat, Nat.reduceLeDiff, Nat.sub_zero, h2.obj, c1])
      exact hag3
    | true =>
      by_cases h0 : at_ < 0
      · simp only [h0, decide_true, Bool.true_or, Bool.and_true, if_true] at hag3
        (simp (maxSteps := 1000000) (dsimp := false) (disch := (first | omega | (simp only [okR]; done) | (simp only [sizeR] <;> omega) | fail)) only [↓preR, postR, ↓w_join, Nat.reduceEqDiff, Nat.reduceAdd, Nat.reduceSub, Nat.reduceMul, Int.reduceNeg, Nat.reduceLT, Int.reduceToNat, Nat.reduceLeDiff, Nat.sub_zero, h2.obj, c1])
        exact hag3
      · simp only [h0, decide_false, Bool.false_or, Bool.true_and] at hag3
        cases longest with
        | true =>
          (simp (maxSteps := 1000000) (dsimp := false) (disch := (first | omega | (simp only [okR]; done) | (simp only [sizeR] <;> omega) | fail)) only [↓preR, postR, ↓w_join, Nat.reduceEqDiff, Nat.reduceAdd, Nat.reduceSub, Nat.reduceMul, Int.reduceNeg, Nat.reduceLT, Int.reduceToNat, Nat.reduceLeDiff, Nat.sub_zero, h2.obj, c1])
          exact hag3
        | false =>
          (simp (maxSteps := 1000000) (dsimp := false) (disch := (first | omega | (simp only [okR]; done) | (simp only [sizeR] <;> omega) | fail)) only [↓preR, postR, ↓w_join, Nat.reduceEqDiff, Nat.reduceAdd, Nat.reduceSub, Nat.reduceMul, Int.reduceNeg, Nat.reduceLT, Int.reduceToNat, Nat.reduceLeDiff, Nat.sub_zero, h2.obj, c1])
          exact hag3
  · obtain rfl : j = s.length + 1 := by omega
    (simp (maxSteps := 1000000) (dsimp := false) (disch := (first | omega | (simp only [okR]; done) | (simp only [sizeR] <;> omega) | fail)) only [↓preR, postR, ↓w_join, Nat.reduceEqDiff, Nat.reduceAdd, Nat.reduceSub, Nat.reduceMul, Int.reduceNeg, Nat.reduceLT, Int.reduceToNat, Nat.reduceLeDiff, Nat.sub_zero])
    exact hk _ h2.drop
theorem back_c (hl : RepL X v l) (hs : s.length ≤ 1000000) (h : Hs σ X R) (hk : ∀ σ', Hs σ' X R → k (.int .i64 (backL l s longest)) σ') : kCall Try.prog 21 [v, .string (bs s), .bool longest] σ k := by
  refine f21 ?_
  (try simp (maxSteps := 1000000) (dsimp := false) (disch := (first | omega | (simp only [okR]; done) | (simp only [sizeR] <;> omega) | fail)) only [↓preR, postR, ↓w_stop, Nat.reduceEqDiff, Nat.reduceAdd, Nat.reduceSub, Nat.reduceMul, Int.reduceNeg, Nat.reduceLT, Int.reduceToNat, Nat.reduceLeDiff, Nat.sub_zero, F21])
  refine join_now ?_
  (try simp (maxSteps := 1000000) (dsimp := false) (disch := (first | omega | (simp only [okR]; done) | (simp only [sizeR] <;> omega) | fail)) only [↓preR, postR, ↓w_stop, Nat.reduceEqDiff, Nat.reduceAdd, Nat.reduceSub, Nat.reduceMul, Int.reduceNeg, Nat.reduceLT, Int.reduceToNat, Nat.reduceLeDiff, Nat.sub_zero])
  refine loop_inv (fun nn xs s1 => ∃ j : Nat, xs = [.int .i64 (pick (fun n => matchL l (s.drop (s.length - n))) longest j), .int .i64 j] ∧ Hs s1 X R ∧ j ≤ s.length + 1 ∧ nn = s.length + 1 - j) _ ⟨0, rfl, h, Nat.zero_le _, rfl⟩ ?_
  clear h
  rintro _ _ s1 again ⟨j, rfl, h, hj, rfl⟩ hag
  by_cases hlt : j < s.length + 1
  · have hag3 := fun s2 h2 => hag (s.length + 1 - (j + 1)) _ s2 ⟨j + 1, rfl, h2, by omega, rfl⟩ (by omega)
    have e : pick (fun n => matchL l (s.drop (s.length - n))) longest (j + 1) = if matchL l (s.drop (s.length - j)) && (decide (pick (fun n => matchL l (s.drop (s.length - n))) longest j < 0) || longest) then (j : Int) else pick (fun n => matchL l (s.drop (s.length - n))) longest j := rfl
    rw [e] at hag3
    clear hag e
    generalize pick (fun n => matchL l (s.drop (s.length - n))) longest j = at_ at hag3 ⊢
    rw [show ((j + 1 : Nat) : Int) = (j : Int) + 1 from by omega] at hag3
    have eN : ((s.length : Int) - (j : Int)).toNat = s.length - j := by omega
    have eD : (s.drop (s.length - j)).take (s.length - (s.length - j)) = s.drop (s.length - j) := List.take_of_length_le (by simp)
    have go : ∀ {K : Value → AS → Prop}, (∀ s3, Hs s3 X R → K (.bool (matchL l (s.drop (s.length - j)))) s3) → kCall Try.prog 15 [v, .string (bs (s.drop (s.length - j)))] s1 K := fun hK => match_c hl (by simp; omega) h hK
    by_cases h0 : at_ < 0
    · simp only [h0, decide_true, Bool.true_or, Bool.and_true] at hag3
      (simp (maxSteps := 1000000) (dsimp := false) (disch := (first | omega | (simp only [okR]; done) | (simp only [sizeR] <;> omega) | fail)) only [↓preR, postR, ↓w_join, Nat.reduceEqDiff, Nat.reduceAdd, Nat.reduceSub, Nat.reduceMul, Int.reduceNeg, Nat.reduceLT, Int.reduceToNat, Nat.reduceLeDiff, Nat.sub_zero, eN, eD])
      refine go fun s3 h3 => ?_
      have hag4 := hag3 s3 h3
      cases hm : matchL l (s.drop (s.length - j)) <;> rw [hm] at hag4 <;> ((simp (maxSteps := 1000000) (dsimp := false) (disch := (first | omega | (simp only [okR]; done) | (simp only [sizeR] <;> omega) | fail)) only [↓preR, postR, ↓w_join, Nat.reduceEqDiff, Nat.reduceAdd, Nat.reduceSub, Nat.reduceMul, Int.reduceNeg, Nat.reduceLT, Int.reduceToNat, Nat.reduceLeDiff, Nat.sub_zero]); exact hag4)
    · simp only [h0, decide_false, Bool.false_or] at hag3
      cases longest with
      | true =>
        simp only [Bool.and_true] at hag3
        (simp (maxSteps := 1000000) (dsimp := false) (disch := (first | omega | (simp only [okR]; done) | (simp only [sizeR] <;> omega) | fail)) only [↓preR, postR, ↓w_join, Nat.reduceEqDiff, Nat.reduceAdd, Nat.reduceSub, Nat.reduceMul, Int.reduceNeg, Nat.reduceLT, Int.reduceToNat, Nat.reduceLeDiff, Nat.sub_zero, eN, eD])
        refine go fun s3 h3 => ?_
        have hag4 := hag3 s3 h3
        cases hm : matchL l (s.drop (s.length - j)) <;> rw [hm] at hag4 <;> ((simp (maxSteps := 1000000) (dsimp := false) (disch := (first | omega | (simp only [okR]; done) | (simp only [sizeR] <;> omega) | fail)) only [↓preR, postR, ↓w_join, Nat.reduceEqDiff, Nat.reduceAdd, Nat.reduceSub, Nat.reduceMul, Int.reduceNeg, Nat.reduceLT, Int.reduceToNat, Nat.reduceLeDiff, Nat.sub_zero]); exact hag4)
      | false =>
        simp only [Bool.and_false] at hag3
        (simp (maxSteps := 1000000) (dsimp := false) (disch := (first | omega | (simp only [okR]; done) | (simp only [sizeR] <;> omega) | fail)) only [↓preR, postR, ↓w_join, Nat.reduceEqDiff, Nat.reduceAdd, Nat.reduceSub, Nat.reduceMul, Int.reduceNeg, Nat.reduceLT, Int.reduceToNat, Nat.reduceLeDiff, Nat.sub_zero, eN, eD])
        exact hag3 _ h
  · obtain rfl : j = s.length + 1 := by omega
    (simp (maxSteps := 1000000) (dsimp := false) (disch := (first | omega | (simp only [okR]; done) | (simp only [sizeR] <;> omega) | fail)) only [↓preR, postR, ↓w_join, Nat.reduceEqDiff, Nat.reduceAdd, Nat.reduceSub, Nat.reduceMul, Int.reduceNeg, Nat.reduceLT, Int.reduceToNat, Nat.reduceLeDiff, Nat.sub_zero])
    exact hk _ h
end
end Go.Proofs.Ytgkhdiahncemcaa
