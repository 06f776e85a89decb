/- Patterns: the law on the shortest and the longest. Conditions: as each theorem says. -/
import Derived.Test.YtgkhdiahncemcaaGlM
namespace Go.Proofs.Ytgkhdiahncemcaa
open E Go.Lib
set_option linter.unusedVariables false
set_option linter.unusedSimpArgs false
set_option maxHeartbeats 1000000
set_option maxRecDepth 20000

theorem ends_spec (p : Nat → Bool) (n : Nat) : (pick p false (n + 1) = -1 ∧ pick p true (n + 1) = -1 ∧ p n = false) ∨ ∃ i j : Nat, pick p false (n + 1) = i ∧ pick p true (n + 1) = j ∧ i ≤ j ∧ j ≤ n ∧ p i = true ∧ p j = true ∧ p n = decide ((j : Int) = n) := by
  rcases pick_spec p (n + 1) with ⟨h1, h2, h3⟩ | ⟨i, j, h1, h2, h3, h4, h5, h6, h7⟩
  · exact .inl ⟨h1, h2, h3 n (by omega)⟩
  · refine .inr ⟨i, j, h1, h2, h3, by omega, h5, h6, ?_⟩
    by_cases e : j = n
    · subst e; rw [h6]; simp
    · rw [decide_eq_false (by omega)]
      cases hp : p n with
      | false => rfl
      | true => have := h7 n (by omega) hp; omega
section
variable {σ σ' : AS} {X : Ce} {R : List Ck} {l a b : List Tok} {u v va vb : Value} {s t : Str} {q : List Bool} {longest : Bool}
theorem cuts_walk (hl : RepL X v l) (h : Hs σ X R) : kCall Try.prog 8 [v, .string (bs s)] σ fun v _ => v = .bool true := by
  refine f8 ?_
  have bb : ∀ b : Bool, (b == b) = true := by decide
  (try simp (maxSteps := 1000000) (dsimp := false) (disch := (first | omega | (simp only [okR]; done) | (simp only [sizeR] <;> omega) | fail)) only [↓preR, postR, ↓w_stop, Nat.reduceEqDiff, Nat.reduceAdd, Nat.reduceSub, Nat.reduceMul, Int.reduceNeg, Nat.reduceLT, Int.reduceToNat, Nat.reduceLeDiff, Nat.sub_zero, F8])
  refine join_now ?_
  (try simp (maxSteps := 1000000) (dsimp := false) (disch := (first | omega | (simp only [okR]; done) | (simp only [sizeR] <;> omega) | fail)) only [↓preR, postR, ↓w_stop, Nat.reduceEqDiff, Nat.reduceAdd, Nat.reduceSub, Nat.reduceMul, Int.reduceNeg, Nat.reduceLT, Int.reduceToNat, Nat.reduceLeDiff, Nat.sub_zero])
  refine few_c hl h ?_
  cases hf : fewL l with
  | false =>
    (simp (maxSteps := 1000000) (dsimp := false) (disch := (first | omega | (simp only [okR]; done) | (simp only [sizeR] <;> omega) | fail)) only [↓preR, postR, ↓w_join, Nat.reduceEqDiff, Nat.reduceAdd, Nat.reduceSub, Nat.reduceMul, Int.reduceNeg, Nat.reduceLT, Int.reduceToNat, Nat.reduceLeDiff, Nat.sub_zero])
    refine awake_c h fun X4 s4 hx4 h4 => ?_
    (try simp (maxSteps := 1000000) (dsimp := false) (disch := (first | omega | (simp only [okR]; done) | (simp only [sizeR] <;> omega) | fail)) only [↓preR, postR, ↓w_join, Nat.reduceEqDiff, Nat.reduceAdd, Nat.reduceSub, Nat.reduceMul, Int.reduceNeg, Nat.reduceLT, Int.reduceToNat, Nat.reduceLeDiff, Nat.sub_zero])
  | true =>
  by_cases hs : s.length ≤ 100
  · (simp (maxSteps := 1000000) (dsimp := false) (disch := (first | omega | (simp only [okR]; done) | (simp only [sizeR] <;> omega) | fail)) only [↓preR, postR, ↓w_join, Nat.reduceEqDiff, Nat.reduceAdd, Nat.reduceSub, Nat.reduceMul, Int.reduceNeg, Nat.reduceLT, Int.reduceToNat, Nat.reduceLeDiff, Nat.sub_zero])
    refine front_c (longest := false) hl (by omega) h fun s1 h1 => ?_
    (try simp (maxSteps := 1000000) (dsimp := false) (disch := (first | omega | (simp only [okR]; done) | (simp only [sizeR] <;> omega) | fail)) only [↓preR, postR, ↓w_join, Nat.reduceEqDiff, Nat.reduceAdd, Nat.reduceSub, Nat.reduceMul, Int.reduceNeg, Nat.reduceLT, Int.reduceToNat, Nat.reduceLeDiff, Nat.sub_zero])
    refine front_c (longest := true) hl (by omega) h1 fun s2 h2 => ?_
    (try simp (maxSteps := 1000000) (dsimp := false) (disch := (first | omega | (simp only [okR]; done) | (simp only [sizeR] <;> omega) | fail)) only [↓preR, postR, ↓w_join, Nat.reduceEqDiff, Nat.reduceAdd, Nat.reduceSub, Nat.reduceMul, Int.reduceNeg, Nat.reduceLT, Int.reduceToNat, Nat.reduceLeDiff, Nat.sub_zero])
    refine back_c (longest := false) hl (by omega) h2 fun s3 h3 => ?_
    (try simp (maxSteps := 1000000) (dsimp := false) (disch := (first | omega | (simp only [okR]; done) | (simp only [sizeR] <;> omega) | fail)) only [↓preR, postR, ↓w_join, Nat.reduceEqDiff, Nat.reduceAdd, Nat.reduceSub, Nat.reduceMul, Int.reduceNeg, Nat.reduceLT, Int.reduceToNat, Nat.reduceLeDiff, Nat.sub_zero])
    refine back_c (longest := true) hl (by omega) h3 fun s4 h4 => ?_
    rw [frontL_eq, frontL_eq]
    unfold backL
    (try simp (maxSteps := 1000000) (dsimp := false) (disch := (first | omega | (simp only [okR]; done) | (simp only [sizeR] <;> omega) | fail)) only [↓preR, postR, ↓w_stop, Nat.reduceEqDiff, Nat.reduceAdd, Nat.reduceSub, Nat.reduceMul, Int.reduceNeg, Nat.reduceLT, Int.reduceToNat, Nat.reduceLeDiff, Nat.sub_zero])
    refine join_by fun J2 hJ2 => ?_
    have hA := ends_spec (fun n => matchL l (s.take n)) s.length
    have hB := ends_spec (fun n => matchL l (s.drop (s.length - n))) s.length
    simp only [List.take_length, Nat.sub_self, List.drop_zero] at hA hB
    generalize pick (fun n => matchL l (s.take n)) false (s.length + 1) = va at hA hJ2 ⊢
    generalize pick (fun n => matchL l (s.take n)) true (s.length + 1) = vb at hA hJ2 ⊢
    generalize pick (fun n => matchL l (s.drop (s.length - n))) false (s.length + 1) = vc at hB hJ2 ⊢
    generalize pick (fun n => matchL l (s.drop (s.length - n))) true (s.length + 1) = vd at hB hJ2 ⊢
    have tail : J2 [] s4 := by
      refine hJ2 _ _ ?_
      (try simp (maxSteps := 1000000) (dsimp := false) (disch := (first | omega | (simp only [okR]; done) | (simp only [sizeR] <;> omega) | fail)) only [↓preR, postR, ↓w_stop, Nat.reduceEqDiff, Nat.reduceAdd, Nat.reduceSub, Nat.reduceMul, Int.reduceNeg, Nat.reduceLT, Int.reduceToNat, Nat.reduceLeDiff, Nat.sub_zero])
      refine join_by fun J3 hJ3 => ?_
      have t3 : ∀ s5, Hs s5 X R → J3 [] s5 := by
        intro s5 h5
        refine hJ3 _ _ ?_
        (try simp (maxSteps := 1000000) (dsimp := false) (disch := (first | omega | (simp only [okR]; done) | (simp only [sizeR] <;> omega) | fail)) only [↓preR, postR, ↓w_join, Nat.reduceEqDiff, Nat.reduceAdd, Nat.reduceSub, Nat.reduceMul, Int.reduceNeg, Nat.reduceLT, Int.reduceToNat, Nat.reduceLeDiff, Nat.sub_zero])
        refine match_c hl (by omega) h5 fun s6 h6 => ?_
        have e1 : (matchL l s == decide (vb = (s.length : Int))) = true := by
          rcases hA with ⟨_, rfl, h⟩ | ⟨i, j, _, rfl, _, _, _, _, h⟩
          · rw [h, decide_eq_false (by omega)]; rfl
          · rw [h]; exact bb _
        have e2 : (matchL l s == decide (vd = (s.length : Int))) = true := by
          rcases hB with ⟨_, rfl, h⟩ | ⟨i, j, _, rfl, _, _, _, _, h⟩
          · rw [h, decide_eq_false (by omega)]; rfl
          · rw [h]; exact bb _
        (simp (maxSteps := 1000000) (dsimp := false) (disch := (first | omega | (simp only [okR]; done) | (simp only [sizeR] <;> omega) | fail)) only [↓preR, postR, ↓w_join, Nat.reduceEqDiff, Nat.reduceAdd, Nat.reduceSub, Nat.reduceMul, Int.reduceNeg, Nat.reduceLT, Int.reduceToNat, Nat.reduceLeDiff, Nat.sub_zero, e1])
        refine match_c hl (by omega) h6 fun s7 h7 => ?_
        (simp (maxSteps := 1000000) (dsimp := false) (disch := (first | omega | (simp only [okR]; done) | (simp only [sizeR] <;> omega) | fail)) only [↓preR, postR, ↓w_join, Nat.reduceEqDiff, Nat.reduceAdd, Nat.reduceSub, Nat.reduceMul, Int.reduceNeg, Nat.reduceLT, Int.reduceToNat, Nat.reduceLeDiff, Nat.sub_zero, e2])
        refine awake_c h7 fun X8 s8 hx8 h8 => ?_
        (simp (maxSteps := 1000000) (dsimp := false) (disch := (first | omega | (simp only [okR]; done) | (simp only [sizeR] <;> omega) | fail)) only [↓preR, postR, ↓w_join, Nat.reduceEqDiff, Nat.reduceAdd, Nat.reduceSub, Nat.reduceMul, Int.reduceNeg, Nat.reduceLT, Int.reduceToNat, Nat.reduceLeDiff, Nat.sub_zero])
      clear hJ3
      have eN : ∀ i : Nat, i ≤ s.length → ((s.length : Int) - (i : Int)).toNat = s.length - i := fun i hi => by omega
      have eD : ∀ i : Nat, (s.drop (s.length - i)).take (s.length - (s.length - i)) = s.drop (s.length - i) := fun i => List.take_of_length_le (by simp)
      rcases hA with ⟨rfl, rfl, hA⟩ | ⟨i, j, rfl, rfl, hij, hj, pi, pj, hA⟩
      · rcases hB with ⟨rfl, rfl, hB⟩ | ⟨i', j', rfl, rfl, hij', hj', pi', pj', hB⟩
        · (simp (maxSteps := 1000000) (dsimp := false) (disch := (first | omega | (simp only [okR]; done) | (simp only [sizeR] <;> omega) | fail)) only [↓preR, postR, ↓w_join, Nat.reduceEqDiff, Nat.reduceAdd, Nat.reduceSub, Nat.reduceMul, Int.reduceNeg, Nat.reduceLT, Int.reduceToNat, Nat.reduceLeDiff, Nat.sub_zero])
          exact t3 _ h4
        · (simp (maxSteps := 1000000) (dsimp := false) (disch := (first | omega | (simp only [okR]; done) | (simp only [sizeR] <;> omega) | fail)) only [↓preR, postR, ↓w_join, Nat.reduceEqDiff, Nat.reduceAdd, Nat.reduceSub, Nat.reduceMul, Int.reduceNeg, Nat.reduceLT, Int.reduceToNat, Nat.reduceLeDiff, Nat.sub_zero, eN i' (by omega), eN j' (by omega), eD])
          refine match_c (s := s.drop (s.length - i')) hl (by simp; omega) h4 fun s5 h5 => ?_
          rw [pi']
          (simp (maxSteps := 1000000) (dsimp := false) (disch := (first | omega | (simp only [okR]; done) | (simp only [sizeR] <;> omega) | fail)) only [↓preR, postR, ↓w_join, Nat.reduceEqDiff, Nat.reduceAdd, Nat.reduceSub, Nat.reduceMul, Int.reduceNeg, Nat.reduceLT, Int.reduceToNat, Nat.reduceLeDiff, Nat.sub_zero, eN i' (by omega), eN j' (by omega), eD])
          refine match_c (s := s.drop (s.length - j')) hl (by simp; omega) h5 fun s6 h6 => ?_
          rw [pj']
          (simp (maxSteps := 1000000) (dsimp := false) (disch := (first | omega | (simp only [okR]; done) | (simp only [sizeR] <;> omega) | fail)) only [↓preR, postR, ↓w_join, Nat.reduceEqDiff, Nat.reduceAdd, Nat.reduceSub, Nat.reduceMul, Int.reduceNeg, Nat.reduceLT, Int.reduceToNat, Nat.reduceLeDiff, Nat.sub_zero])
          exact t3 _ h6
      · (simp (maxSteps := 1000000) (dsimp := false) (disch := (first | omega | (simp only [okR]; done) | (simp only [sizeR] <;> omega) | fail)) only [↓preR, postR, ↓w_join, Nat.reduceEqDiff, Nat.reduceAdd, Nat.reduceSub, Nat.reduceMul, Int.reduceNeg, Nat.reduceLT, Int.reduceToNat, Nat.reduceLeDiff, Nat.sub_zero])
        refine match_c (s := s.take i) hl (by simp; omega) h4 fun s5 h5 => ?_
        rw [pi]
        (simp (maxSteps := 1000000) (dsimp := false) (disch := (first | omega | (simp only [okR]; done) | (simp only [sizeR] <;> omega) | fail)) only [↓preR, postR, ↓w_join, Nat.reduceEqDiff, Nat.reduceAdd, Nat.reduceSub, Nat.reduceMul, Int.reduceNeg, Nat.reduceLT, Int.reduceToNat, Nat.reduceLeDiff, Nat.sub_zero])
        refine match_c (s := s.take j) hl (by simp; omega) h5 fun s6 h6 => ?_
        rw [pj]
        rcases hB with ⟨rfl, rfl, hB⟩ | ⟨i', j', rfl, rfl, hij', hj', pi', pj', hB⟩
        · (simp (maxSteps := 1000000) (dsimp := false) (disch := (first | omega | (simp only [okR]; done) | (simp only [sizeR] <;> omega) | fail)) only [↓preR, postR, ↓w_join, Nat.reduceEqDiff, Nat.reduceAdd, Nat.reduceSub, Nat.reduceMul, Int.reduceNeg, Nat.reduceLT, Int.reduceToNat, Nat.reduceLeDiff, Nat.sub_zero])
          exact t3 _ h6
        · (simp (maxSteps := 1000000) (dsimp := false) (disch := (first | omega | (simp only [okR]; done) | (simp only [sizeR] <;> omega) | fail)) only [↓preR, postR, ↓w_join, Nat.reduceEqDiff, Nat.reduceAdd, Nat.reduceSub, Nat.reduceMul, Int.reduceNeg, Nat.reduceLT, Int.reduceToNat, Nat.reduceLeDiff, Nat.sub_zero, eN i' (by omega), eN j' (by omega), eD])
          refine match_c (s := s.drop (s.length - i')) hl (by simp; omega) h6 fun s7 h7 => ?_
          rw [pi']
          (simp (maxSteps := 1000000) (dsimp := false) (disch := (first | omega | (simp only [okR]; done) | (simp only [sizeR] <;> omega) | fail)) only [↓preR, postR, ↓w_join, Nat.reduceEqDiff, Nat.reduceAdd, Nat.reduceSub, Nat.reduceMul, Int.reduceNeg, Nat.reduceLT, Int.reduceToNat, Nat.reduceLeDiff, Nat.sub_zero, eN i' (by omega), eN j' (by omega), eD])
          refine match_c (s := s.drop (s.length - j')) hl (by simp; omega) h7 fun s8 h8 => ?_
          rw [pj']
          (simp (maxSteps := 1000000) (dsimp := false) (disch := (first | omega | (simp only [okR]; done) | (simp only [sizeR] <;> omega) | fail)) only [↓preR, postR, ↓w_join, Nat.reduceEqDiff, Nat.reduceAdd, Nat.reduceSub, Nat.reduceMul, Int.reduceNeg, Nat.reduceLT, Int.reduceToNat, Nat.reduceLeDiff, Nat.sub_zero])
          exact t3 _ h8
    clear hJ2
    rcases hA with ⟨rfl, rfl, hA⟩ | ⟨i, j, rfl, rfl, hA⟩
    · rcases hB with ⟨rfl, rfl, hB⟩ | ⟨i', j', rfl, rfl, hB⟩
      · (simp (maxSteps := 1000000) (dsimp := false) (disch := (first | omega | (simp only [okR]; done) | (simp only [sizeR] <;> omega) | fail)) only [↓preR, postR, ↓w_join, Nat.reduceEqDiff, Nat.reduceAdd, Nat.reduceSub, Nat.reduceMul, Int.reduceNeg, Nat.reduceLT, Int.reduceToNat, Nat.reduceLeDiff, Nat.sub_zero])
        exact tail
      · (simp (maxSteps := 1000000) (dsimp := false) (disch := (first | omega | (simp only [okR]; done) | (simp only [sizeR] <;> omega) | fail)) only [↓preR, postR, ↓w_join, Nat.reduceEqDiff, Nat.reduceAdd, Nat.reduceSub, Nat.reduceMul, Int.reduceNeg, Nat.reduceLT, Int.reduceToNat, Nat.reduceLeDiff, Nat.sub_zero])
        exact tail
    · rcases hB with ⟨rfl, rfl, hB⟩ | ⟨i', j', rfl, rfl, hB⟩
      · (simp (maxSteps := 1000000) (dsimp := false) (disch := (first | omega | (simp only [okR]; done) | (simp only [sizeR] <;> omega) | fail)) only [↓preR, postR, ↓w_join, Nat.reduceEqDiff, Nat.reduceAdd, Nat.reduceSub, Nat.reduceMul, Int.reduceNeg, Nat.reduceLT, Int.reduceToNat, Nat.reduceLeDiff, Nat.sub_zero])
        exact tail
      · (simp (maxSteps := 1000000) (dsimp := false) (disch := (first | omega | (simp only [okR]; done) | (simp only [sizeR] <;> omega) | fail)) only [↓preR, postR, ↓w_join, Nat.reduceEqDiff, Nat.reduceAdd, Nat.reduceSub, Nat.reduceMul, Int.reduceNeg, Nat.reduceLT, Int.reduceToNat, Nat.reduceLeDiff, Nat.sub_zero])
        exact tail
  · (simp (maxSteps := 1000000) (dsimp := false) (disch := (first | omega | (simp only [okR]; done) | (simp only [sizeR] <;> omega) | fail)) only [↓preR, postR, ↓w_join, Nat.reduceEqDiff, Nat.reduceAdd, Nat.reduceSub, Nat.reduceMul, Int.reduceNeg, Nat.reduceLT, Int.reduceToNat, Nat.reduceLeDiff, Nat.sub_zero])
    refine awake_c h fun X4 s4 hx4 h4 => ?_
    (try simp (maxSteps := 1000000) (dsimp := false) (disch := (first | omega | (simp only [okR]; done) | (simp only [sizeR] <;> omega) | fail)) only [↓preR, postR, ↓w_join, Nat.reduceEqDiff, Nat.reduceAdd, Nat.reduceSub, Nat.reduceMul, Int.reduceNeg, Nat.reduceLT, Int.reduceToNat, Nat.reduceLeDiff, Nat.sub_zero])
theorem cuts_law {v0 v1 : Value} {c : Ce} (h : Hs σ c []) (A0 : OV c (shOf Try.prog 8 26) v0) (A1 : OV c (shOf Try.prog 8 9) v1) : kCall Try.prog 8 [v0, v1] σ fun v _ => v = .bool true := by
  obtain ⟨s, rfl⟩ := str_arg A1
  obtain ⟨l, hl⟩ := tokens_arg A0
  exact cuts_walk hl h
theorem self_law {v0 v1 : Value} {c : Ce} (h : Hs σ c []) (A0 : OV c (shOf Try.prog 8 9) v0) (A1 : OV c (shOf Try.prog 8 9) v1) : kCall Try.prog 6 [v0, v1] σ fun v _ => v = .bool true := by
  obtain ⟨s, rfl⟩ := str_arg A0
  obtain ⟨t, rfl⟩ := str_arg A1
  exact self_walk h
theorem joins_law {v0 v1 v2 : Value} {c : Ce} (h : Hs σ c []) (A0 : OV c (shOf Try.prog 8 26) v0) (A1 : OV c (shOf Try.prog 8 26) v1) (A2 : OV c (shOf Try.prog 8 9) v2) : kCall Try.prog 7 [v0, v1, v2] σ fun v _ => v = .bool true := by
  obtain ⟨s, rfl⟩ := str_arg A2
  obtain ⟨a, ha⟩ := tokens_arg A0
  obtain ⟨b, hb⟩ := tokens_arg A1
  exact joins_walk ha hb h
end
end Go.Proofs.Ytgkhdiahncemcaa
