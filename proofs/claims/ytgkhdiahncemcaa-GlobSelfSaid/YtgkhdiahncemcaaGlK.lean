/- Patterns: the reference's Front and Back; the examples. Conditions: as each theorem says. -/
import Derived.Test.YtgkhdiahncemcaaGlJ
namespace Go.Proofs.Ytgkhdiahncemcaa
open E Go.Lib
set_option linter.unusedVariables false
set_option linter.unusedSimpArgs false
set_option maxHeartbeats 1000000
set_option maxRecDepth 20000

section
variable {σ σ' : AS} {X : Ce} {R : List Ck} {k : Value → AS → Prop} {l a b : List Tok} {u v va vb : Value} {s : Str} {longest : Bool}
theorem frontL_eq (l : List Tok) (s : Str) (longest : Bool) : frontL l s longest = pick (fun n => matchL l (s.take n)) longest (s.length + 1) :=
  pick_congr fun i hi => by rw [reachL_get (by omega), matchL_eq]
theorem rfront_c (hl : RepL X v l) (hs : s.length ≤ 1000000) (h : Hs σ X R) (hk : ∀ σ', Hs σ' X R → k (.int .i64 (frontL l s longest)) σ') : kCall Try.prog 20 [v, .string (bs s), .bool longest] σ k := by
  rw [frontL_eq] at hk
  refine f20 ?_
  (try simp (maxSteps := 1000000) (dsimp := false) (disch := (first | omega | (simp only [okR]; done) | (simp only [sizeR] <;> omega) | fail)) only [↓preR, postR, ↓w_stop, Nat.reduceEqDiff, Nat.reduceAdd, Nat.reduceSub, Nat.reduceMul, Int.reduceNeg, Nat.reduceLT, Int.reduceToNat, Nat.reduceLeDiff, Nat.sub_zero, F20])
  refine join_now ?_
  refine loop_inv (fun nn xs s1 => ∃ j : Nat, xs = [.int .i64 (pick (fun n => matchL l (s.take n)) longest j), .int .i64 j] ∧ Hs s1 X R ∧ j ≤ s.length + 1 ∧ nn = s.length + 1 - j) _ ⟨0, rfl, h, Nat.zero_le _, rfl⟩ ?_
  clear h
  rintro _ _ s1 again ⟨j, rfl, h, hj, rfl⟩ hag
  by_cases hlt : j < s.length + 1
  · have hag3 := fun s2 h2 => hag (s.length + 1 - (j + 1)) _ s2 ⟨j + 1, rfl, h2, by omega, rfl⟩ (by omega)
    have e : pick (fun n => matchL l (s.take n)) longest (j + 1) = if matchL l (s.take j) && (decide (pick (fun n => matchL l (s.take n)) longest j < 0) || longest) then (j : Int) else pick (fun n => matchL l (s.take n)) longest j := rfl
    rw [e] at hag3
    clear hag e
    generalize pick (fun n => matchL l (s.take n)) longest j = at_ at hag3 ⊢
    rw [show ((j + 1 : Nat) : Int) = (j : Int) + 1 from by omega] at hag3
    (simp (maxSteps := 1000000) (dsimp := false) (disch := (first | omega | (simp only [okR]; done) | (simp only [sizeR] <;> omega) | fail)) only [↓preR, postR, ↓w_join, Nat.reduceEqDiff, Nat.reduceAdd, Nat.reduceSub, Nat.reduceMul, Int.reduceNeg, Nat.reduceLT, Int.reduceToNat, Nat.reduceLeDiff, Nat.sub_zero])
    refine rmatch_c (s := s.take j) hl (by simp; omega) h fun s3 h3 => ?_
    have hag4 := hag3 s3 h3
    cases hm : matchL l (s.take j) with
    | false => rw [hm] at hag4; (simp (maxSteps := 1000000) (dsimp := false) (disch := (first | omega | (simp only [okR]; done) | (simp only [sizeR] <;> omega) | fail)) only [↓preR, postR, ↓w_join, Nat.reduceEqDiff, Nat.reduceAdd, Nat.reduceSub, Nat.reduceMul, Int.reduceNeg, Nat.reduceLT, Int.reduceToNat, Nat.reduceLeDiff, Nat.sub_zero]); exact hag4
    | true =>
      rw [hm] at hag4
      by_cases h0 : at_ < 0
      · simp only [h0, decide_true, Bool.true_or, Bool.and_true, if_true] at hag4
        (simp (maxSteps := 1000000) (dsimp := false) (disch := (first | omega | (simp only [okR]; done) | (simp only [sizeR] <;> omega) | fail)) only [↓preR, postR, ↓w_join, Nat.reduceEqDiff, Nat.reduceAdd, Nat.reduceSub, Nat.reduceMul, Int.reduceNeg, Nat.reduceLT, Int.reduceToNat, Nat.reduceLeDiff, Nat.sub_zero])
        exact hag4
      · simp only [h0, decide_false, Bool.false_or, Bool.true_and] at hag4
        cases longest <;> ((simp (maxSteps := 1000000) (dsimp := false) (disch := (first | omega | (simp only [okR]; done) | (simp only [sizeR] <;> omega) | fail)) only [↓preR, postR, ↓w_join, Nat.reduceEqDiff, Nat.reduceAdd, Nat.reduceSub, Nat.reduceMul, Int.reduceNeg, Nat.reduceLT, Int.reduceToNat, Nat.reduceLeDiff, Nat.sub_zero]); exact hag4)
  · obtain rfl : j = s.length + 1 := by omega
    (simp (maxSteps := 1000000) (dsimp := false) (disch := (first | omega | (simp only [okR]; done) | (simp only [sizeR] <;> omega) | fail)) only [↓preR, postR, ↓w_join, Nat.reduceEqDiff, Nat.reduceAdd, Nat.reduceSub, Nat.reduceMul, Int.reduceNeg, Nat.reduceLT, Int.reduceToNat, Nat.reduceLeDiff, Nat.sub_zero])
    exact hk _ h
theorem rback_c (hl : RepL X v l) (hs : s.length ≤ 1000000) (h : Hs σ X R) (hk : ∀ σ', Hs σ' X R → k (.int .i64 (backL l s longest)) σ') : kCall Try.prog 22 [v, .string (bs s), .bool longest] σ k := by
  refine f22 ?_
  (try simp (maxSteps := 1000000) (dsimp := false) (disch := (first | omega | (simp only [okR]; done) | (simp only [sizeR] <;> omega) | fail)) only [↓preR, postR, ↓w_stop, Nat.reduceEqDiff, Nat.reduceAdd, Nat.reduceSub, Nat.reduceMul, Int.reduceNeg, Nat.reduceLT, Int.reduceToNat, Nat.reduceLeDiff, Nat.sub_zero, F22])
  refine join_now ?_
  refine loop_inv (fun nn xs s1 => ∃ j : Nat, xs = [.int .i64 (pick (fun n => matchL l (s.drop (s.length - n))) longest j), .int .i64 j] ∧ Hs s1 X R ∧ j ≤ s.length + 1 ∧ nn = s.length + 1 - j) _ ⟨0, rfl, h, Nat.zero_le _, rfl⟩ ?_
  clear h
  rintro _ _ s1 again ⟨j, rfl, h, hj, rfl⟩ hag
  by_cases hlt : j < s.length + 1
  · have hag3 := fun s2 h2 => hag (s.length + 1 - (j + 1)) _ s2 ⟨j + 1, rfl, h2, by omega, rfl⟩ (by omega)
    have e : pick (fun n => matchL l (s.drop (s.length - n))) longest (j + 1) = if matchL l (s.drop (s.length - j)) && (decide (pick (fun n => matchL l (s.drop (s.length - n))) longest j < 0) || longest) then (j : Int) else pick (fun n => matchL l (s.drop (s.length - n))) longest j := rfl
    rw [e] at hag3
    clear hag e
    generalize pick (fun n => matchL l (s.drop (s.length - n))) longest j = at_ at hag3 ⊢
    rw [show ((j + 1 : Nat) : Int) = (j : Int) + 1 from by omega] at hag3
    have eN : ((s.length : Int) - (j : Int)).toNat = s.length - j := by omega
    have eD : (s.drop (s.length - j)).take (s.length - (s.length - j)) = s.drop (s.length - j) := List.take_of_length_le (by simp)
    (simp (maxSteps := 1000000) (dsimp := false) (disch := (first | omega | (simp only [okR]; done) | (simp only [sizeR] <;> omega) | fail)) only [↓preR, postR, ↓w_join, Nat.reduceEqDiff, Nat.reduceAdd, Nat.reduceSub, Nat.reduceMul, Int.reduceNeg, Nat.reduceLT, Int.reduceToNat, Nat.reduceLeDiff, Nat.sub_zero, eN, eD])
    refine rmatch_c (s := s.drop (s.length - j)) hl (by simp; omega) h fun s3 h3 => ?_
    have hag4 := hag3 s3 h3
    cases hm : matchL l (s.drop (s.length - j)) with
    | false => rw [hm] at hag4; (simp (maxSteps := 1000000) (dsimp := false) (disch := (first | omega | (simp only [okR]; done) | (simp only [sizeR] <;> omega) | fail)) only [↓preR, postR, ↓w_join, Nat.reduceEqDiff, Nat.reduceAdd, Nat.reduceSub, Nat.reduceMul, Int.reduceNeg, Nat.reduceLT, Int.reduceToNat, Nat.reduceLeDiff, Nat.sub_zero]); exact hag4
    | true =>
      rw [hm] at hag4
      by_cases h0 : at_ < 0
      · simp only [h0, decide_true, Bool.true_or, Bool.and_true, if_true] at hag4
        (simp (maxSteps := 1000000) (dsimp := false) (disch := (first | omega | (simp only [okR]; done) | (simp only [sizeR] <;> omega) | fail)) only [↓preR, postR, ↓w_join, Nat.reduceEqDiff, Nat.reduceAdd, Nat.reduceSub, Nat.reduceMul, Int.reduceNeg, Nat.reduceLT, Int.reduceToNat, Nat.reduceLeDiff, Nat.sub_zero])
        exact hag4
      · simp only [h0, decide_false, Bool.false_or, Bool.true_and] at hag4
        cases longest <;> ((simp (maxSteps := 1000000) (dsimp := false) (disch := (first | omega | (simp only [okR]; done) | (simp only [sizeR] <;> omega) | fail)) only [↓preR, postR, ↓w_join, Nat.reduceEqDiff, Nat.reduceAdd, Nat.reduceSub, Nat.reduceMul, Int.reduceNeg, Nat.reduceLT, Int.reduceToNat, Nat.reduceLeDiff, Nat.sub_zero]); exact hag4)
  · obtain rfl : j = s.length + 1 := by omega
    (simp (maxSteps := 1000000) (dsimp := false) (disch := (first | omega | (simp only [okR]; done) | (simp only [sizeR] <;> omega) | fail)) only [↓preR, postR, ↓w_join, Nat.reduceEqDiff, Nat.reduceAdd, Nat.reduceSub, Nat.reduceMul, Int.reduceNeg, Nat.reduceLT, Int.reduceToNat, Nat.reduceLeDiff, Nat.sub_zero])
    exact hk _ h

/-! ### The examples -/
theorem awake_c (h : Hs σ X R) (hk : ∀ X' σ', Ce.le X X' → Hs σ' X' R → k (.bool true) σ') : kCall Try.prog 13 [] σ k := by
  have q0 : ∀ X : Ce, RepL X (.slice none 0 0) ([] : List Bool) := fun X => ⟨none, 0, rfl, Nat.le_refl _, Nat.zero_le _, .inl rfl⟩
  refine f13 ?_
  (simp (maxSteps := 1000000) (dsimp := false) (disch := (first | omega | (simp only [okR]; done) | (simp only [sizeR] <;> omega) | fail)) only [↓preR, postR, ↓w_join, Nat.reduceEqDiff, Nat.reduceAdd, Nat.reduceSub, Nat.reduceMul, Int.reduceNeg, Nat.reduceLT, Int.reduceToNat, Nat.reduceLeDiff, Nat.sub_zero, F13])
  refine parse_c (s := [97, 42, 99]) (q := []) (q0 _) (by simp) h fun X1 v1 s1 hx1 hv1 h1 => ?_
  (try simp (maxSteps := 1000000) (dsimp := false) (disch := (first | omega | (simp only [okR]; done) | (simp only [sizeR] <;> omega) | fail)) only [↓preR, postR, ↓w_join, Nat.reduceEqDiff, Nat.reduceAdd, Nat.reduceSub, Nat.reduceMul, Int.reduceNeg, Nat.reduceLT, Int.reduceToNat, Nat.reduceLeDiff, Nat.sub_zero])
  refine parse_c (s := [91, 33, 97, 45, 99, 93, 63]) (q := []) (q0 _) (by simp) h1 fun X2 v2 s2 hx2 hv2 h2 => ?_
  have hv1 := hv1.mono hx2
  (try simp (maxSteps := 1000000) (dsimp := false) (disch := (first | omega | (simp only [okR]; done) | (simp only [sizeR] <;> omega) | fail)) only [↓preR, postR, ↓w_join, Nat.reduceEqDiff, Nat.reduceAdd, Nat.reduceSub, Nat.reduceMul, Int.reduceNeg, Nat.reduceLT, Int.reduceToNat, Nat.reduceLeDiff, Nat.sub_zero])
  have g2 := (h2.new (cs := [.bool true])).lit (l := [true]) (n := 1) (RpL.one rfl) rfl (by unfold maxLen; omega)
  obtain ⟨X3, hx3, hq, h3⟩ := g2.keep
  have hv1 := hv1.mono hx3
  have hv2 := hv2.mono hx3
  refine parse_c (s := [42]) (q := [true]) hq (by simp) h3 fun X4 v4 s4 hx4 hv4 h4 => ?_
  have hv1 := hv1.mono hx4
  have hv2 := hv2.mono hx4
  (try simp (maxSteps := 1000000) (dsimp := false) (disch := (first | omega | (simp only [okR]; done) | (simp only [sizeR] <;> omega) | fail)) only [↓preR, postR, ↓w_join, Nat.reduceEqDiff, Nat.reduceAdd, Nat.reduceSub, Nat.reduceMul, Int.reduceNeg, Nat.reduceLT, Int.reduceToNat, Nat.reduceLeDiff, Nat.sub_zero])
  refine match_c (s := [97, 98, 98, 99]) hv1 (by simp) h4 fun s5 h5 => ?_
  rw [show matchL (toks [97, 42, 99] []) [97, 98, 98, 99] = true from by decide +kernel]
  (try simp (maxSteps := 1000000) (dsimp := false) (disch := (first | omega | (simp only [okR]; done) | (simp only [sizeR] <;> omega) | fail)) only [↓preR, postR, ↓w_join, Nat.reduceEqDiff, Nat.reduceAdd, Nat.reduceSub, Nat.reduceMul, Int.reduceNeg, Nat.reduceLT, Int.reduceToNat, Nat.reduceLeDiff, Nat.sub_zero])
  refine match_c (s := [97, 98]) hv1 (by simp) h5 fun s6 h6 => ?_
  rw [show matchL (toks [97, 42, 99] []) [97, 98] = false from by decide +kernel]
  (try simp (maxSteps := 1000000) (dsimp := false) (disch := (first | omega | (simp only [okR]; done) | (simp only [sizeR] <;> omega) | fail)) only [↓preR, postR, ↓w_join, Nat.reduceEqDiff, Nat.reduceAdd, Nat.reduceSub, Nat.reduceMul, Int.reduceNeg, Nat.reduceLT, Int.reduceToNat, Nat.reduceLeDiff, Nat.sub_zero])
  refine match_c (s := [100, 120]) hv2 (by simp) h6 fun s7 h7 => ?_
  rw [show matchL (toks [91, 33, 97, 45, 99, 93, 63] []) [100, 120] = true from by decide +kernel]
  (try simp (maxSteps := 1000000) (dsimp := false) (disch := (first | omega | (simp only [okR]; done) | (simp only [sizeR] <;> omega) | fail)) only [↓preR, postR, ↓w_join, Nat.reduceEqDiff, Nat.reduceAdd, Nat.reduceSub, Nat.reduceMul, Int.reduceNeg, Nat.reduceLT, Int.reduceToNat, Nat.reduceLeDiff, Nat.sub_zero])
  refine match_c (s := [97, 120]) hv2 (by simp) h7 fun s8 h8 => ?_
  rw [show matchL (toks [91, 33, 97, 45, 99, 93, 63] []) [97, 120] = false from by decide +kernel]
  (try simp (maxSteps := 1000000) (dsimp := false) (disch := (first | omega | (simp only [okR]; done) | (simp only [sizeR] <;> omega) | fail)) only [↓preR, postR, ↓w_join, Nat.reduceEqDiff, Nat.reduceAdd, Nat.reduceSub, Nat.reduceMul, Int.reduceNeg, Nat.reduceLT, Int.reduceToNat, Nat.reduceLeDiff, Nat.sub_zero])
  refine match_c (s := [42]) hv4 (by simp) h8 fun s9 h9 => ?_
  rw [show matchL (toks [42] [true]) [42] = true from by decide +kernel]
  (try simp (maxSteps := 1000000) (dsimp := false) (disch := (first | omega | (simp only [okR]; done) | (simp only [sizeR] <;> omega) | fail)) only [↓preR, postR, ↓w_join, Nat.reduceEqDiff, Nat.reduceAdd, Nat.reduceSub, Nat.reduceMul, Int.reduceNeg, Nat.reduceLT, Int.reduceToNat, Nat.reduceLeDiff, Nat.sub_zero])
  refine match_c (s := [97]) hv4 (by simp) h9 fun s10 h10 => ?_
  rw [show matchL (toks [42] [true]) [97] = false from by decide +kernel]
  (try simp (maxSteps := 1000000) (dsimp := false) (disch := (first | omega | (simp only [okR]; done) | (simp only [sizeR] <;> omega) | fail)) only [↓preR, postR, ↓w_join, Nat.reduceEqDiff, Nat.reduceAdd, Nat.reduceSub, Nat.reduceMul, Int.reduceNeg, Nat.reduceLT, Int.reduceToNat, Nat.reduceLeDiff, Nat.sub_zero])
  refine special_c hv2 h10 fun s11 h11 => ?_
  rw [show specL (toks [91, 33, 97, 45, 99, 93, 63] []) = true from by decide +kernel]
  (try simp (maxSteps := 1000000) (dsimp := false) (disch := (first | omega | (simp only [okR]; done) | (simp only [sizeR] <;> omega) | fail)) only [↓preR, postR, ↓w_join, Nat.reduceEqDiff, Nat.reduceAdd, Nat.reduceSub, Nat.reduceMul, Int.reduceNeg, Nat.reduceLT, Int.reduceToNat, Nat.reduceLeDiff, Nat.sub_zero])
  refine special_c hv4 h11 fun s12 h12 => ?_
  rw [show specL (toks [42] [true]) = false from by decide +kernel]
  (try simp (maxSteps := 1000000) (dsimp := false) (disch := (first | omega | (simp only [okR]; done) | (simp only [sizeR] <;> omega) | fail)) only [↓preR, postR, ↓w_join, Nat.reduceEqDiff, Nat.reduceAdd, Nat.reduceSub, Nat.reduceMul, Int.reduceNeg, Nat.reduceLT, Int.reduceToNat, Nat.reduceLeDiff, Nat.sub_zero])
  refine parse_c (s := [97, 42]) (q := []) (q0 _) (by simp) h12 fun X13 v13 s13 hx13 hv13 h13 => ?_
  (try simp (maxSteps := 1000000) (dsimp := false) (disch := (first | omega | (simp only [okR]; done) | (simp only [sizeR] <;> omega) | fail)) only [↓preR, postR, ↓w_join, Nat.reduceEqDiff, Nat.reduceAdd, Nat.reduceSub, Nat.reduceMul, Int.reduceNeg, Nat.reduceLT, Int.reduceToNat, Nat.reduceLeDiff, Nat.sub_zero])
  refine front_c (s := [97, 97, 98]) hv13 (by simp) h13 fun s14 h14 => ?_
  rw [show frontL (toks [97, 42] []) [97, 97, 98] true = 3 from by decide +kernel]
  (try simp (maxSteps := 1000000) (dsimp := false) (disch := (first | omega | (simp only [okR]; done) | (simp only [sizeR] <;> omega) | fail)) only [↓preR, postR, ↓w_join, Nat.reduceEqDiff, Nat.reduceAdd, Nat.reduceSub, Nat.reduceMul, Int.reduceNeg, Nat.reduceLT, Int.reduceToNat, Nat.reduceLeDiff, Nat.sub_zero])
  refine parse_c (s := [42, 98]) (q := []) (q0 _) (by simp) h14 fun X15 v15 s15 hx15 hv15 h15 => ?_
  (try simp (maxSteps := 1000000) (dsimp := false) (disch := (first | omega | (simp only [okR]; done) | (simp only [sizeR] <;> omega) | fail)) only [↓preR, postR, ↓w_join, Nat.reduceEqDiff, Nat.reduceAdd, Nat.reduceSub, Nat.reduceMul, Int.reduceNeg, Nat.reduceLT, Int.reduceToNat, Nat.reduceLeDiff, Nat.sub_zero])
  refine back_c (s := [97, 97, 98]) hv15 (by simp) h15 fun s16 h16 => ?_
  rw [show backL (toks [42, 98] []) [97, 97, 98] false = 1 from by decide +kernel]
  (try simp (maxSteps := 1000000) (dsimp := false) (disch := (first | omega | (simp only [okR]; done) | (simp only [sizeR] <;> omega) | fail)) only [↓preR, postR, ↓w_join, Nat.reduceEqDiff, Nat.reduceAdd, Nat.reduceSub, Nat.reduceMul, Int.reduceNeg, Nat.reduceLT, Int.reduceToNat, Nat.reduceLeDiff, Nat.sub_zero])
  exact hk _ _ (Ce.le_trans hx1 (Ce.le_trans hx2 (Ce.le_trans hx3 (Ce.le_trans hx4 (Ce.le_trans hx13 hx15))))) h16
end
end Go.Proofs.Ytgkhdiahncemcaa
