/- Names, as the document's answer has them. Conditions: none. -/
import Derived.Test.YtmgdkoidgoihfaaGreatDoorNm
namespace Go.Proofs.YtmgdkoidgoihfaaGreatDoor
open E Go.Lib
set_option linter.unusedVariables false
set_option linter.unusedSimpArgs false
set_option maxHeartbeats 1000000
set_option maxRecDepth 20000

def alphaR (c : UInt8) : Bool := (decide (97 ≤ (c.toNat : Int)) && decide ((c.toNat : Int) ≤ 122)) || ((decide (65 ≤ (c.toNat : Int)) && decide ((c.toNat : Int) ≤ 90)) || decide ((c.toNat : Int) = 95))
theorem alpha_all : (List.range 256).all (fun i => alphaB (UInt8.ofNat i) == alphaR (UInt8.ofNat i)) = true := by kernel_rfl
theorem alpha_eq (c : UInt8) : alphaR c = alphaB c := by
  have h := List.all_eq_true.1 alpha_all c.toNat (List.mem_range.2 c.toNat_lt)
  rw [UInt8.ofNat_toNat] at h
  exact (eq_of_beq h).symm
section
variable {σ σ' : AS} {X : Ce} {R : List Ck} {k : Value → AS → Prop} {s : List UInt8} {c : UInt8}
theorem ralpha_c (hk : k (.bool (alphaB c)) σ) : kCall Tryz.prog 73 [.int .u8 c.toNat] σ k := by
  refine f73 ?_
  rw [← alpha_eq] at hk
  unfold alphaR at hk
  by_cases h1 : 97 ≤ (c.toNat : Int)
  · by_cases h2 : (c.toNat : Int) ≤ 122
    · (simp (maxSteps := 1000000) (dsimp := false) (disch := (first | omega | (simp only [okR]; done) | (simp only [sizeR] <;> omega) | fail)) only [↓preR, postR, ↓w_join, Nat.reduceEqDiff, Nat.reduceAdd, Nat.reduceSub, Nat.reduceMul, Int.reduceNeg, Nat.reduceLT, Int.reduceToNat, Nat.reduceLeDiff, Nat.sub_zero, F73, h1, h2])
      simp only [h1, h2, decide_true, Bool.true_and, Bool.true_or] at hk
      exact hk
    · have h3 : ¬ (c.toNat : Int) ≤ 90 := by omega
      have h4 : 65 ≤ (c.toNat : Int) := by omega
      have h5 : ¬ (c.toNat : Int) = 95 := by omega
      (simp (maxSteps := 1000000) (dsimp := false) (disch := (first | omega | (simp only [okR]; done) | (simp only [sizeR] <;> omega) | fail)) only [↓preR, postR, ↓w_join, Nat.reduceEqDiff, Nat.reduceAdd, Nat.reduceSub, Nat.reduceMul, Int.reduceNeg, Nat.reduceLT, Int.reduceToNat, Nat.reduceLeDiff, Nat.sub_zero, F73, h1, h2, h3, h4, h5])
      simp only [h1, h2, h3, h4, h5, decide_true, decide_false, Bool.true_and, Bool.and_false, Bool.false_or] at hk
      exact hk
  · by_cases h4 : 65 ≤ (c.toNat : Int)
    · by_cases h3 : (c.toNat : Int) ≤ 90
      · (simp (maxSteps := 1000000) (dsimp := false) (disch := (first | omega | (simp only [okR]; done) | (simp only [sizeR] <;> omega) | fail)) only [↓preR, postR, ↓w_join, Nat.reduceEqDiff, Nat.reduceAdd, Nat.reduceSub, Nat.reduceMul, Int.reduceNeg, Nat.reduceLT, Int.reduceToNat, Nat.reduceLeDiff, Nat.sub_zero, F73, h1, h3, h4])
        simp only [h1, h3, h4, decide_true, decide_false, Bool.true_and, Bool.false_and, Bool.false_or, Bool.true_or] at hk
        exact hk
      · (simp (maxSteps := 1000000) (dsimp := false) (disch := (first | omega | (simp only [okR]; done) | (simp only [sizeR] <;> omega) | fail)) only [↓preR, postR, ↓w_join, Nat.reduceEqDiff, Nat.reduceAdd, Nat.reduceSub, Nat.reduceMul, Int.reduceNeg, Nat.reduceLT, Int.reduceToNat, Nat.reduceLeDiff, Nat.sub_zero, F73, h1, h3, h4])
        simp only [h1, h3, h4, decide_true, decide_false, Bool.true_and, Bool.false_and, Bool.false_or] at hk
        exact hk
    · have h5 : ¬ (c.toNat : Int) = 95 := by omega
      (simp (maxSteps := 1000000) (dsimp := false) (disch := (first | omega | (simp only [okR]; done) | (simp only [sizeR] <;> omega) | fail)) only [↓preR, postR, ↓w_join, Nat.reduceEqDiff, Nat.reduceAdd, Nat.reduceSub, Nat.reduceMul, Int.reduceNeg, Nat.reduceLT, Int.reduceToNat, Nat.reduceLeDiff, Nat.sub_zero, F73, h1, h4, h5])
      simp only [h1, h4, h5, decide_false, Bool.false_and, Bool.false_or] at hk
      exact hk
theorem rdigit_c (hk : k (.bool (digitB c)) σ) : kCall Tryz.prog 49 [.int .u8 c.toNat] σ k := by
  refine f49 ?_
  unfold digitB at hk
  by_cases h2 : 48 ≤ (c.toNat : Int)
  · (simp (maxSteps := 1000000) (dsimp := false) (disch := (first | omega | (simp only [okR]; done) | (simp only [sizeR] <;> omega) | fail)) only [↓preR, postR, ↓w_join, Nat.reduceEqDiff, Nat.reduceAdd, Nat.reduceSub, Nat.reduceMul, Int.reduceNeg, Nat.reduceLT, Int.reduceToNat, Nat.reduceLeDiff, Nat.sub_zero, F49, h2])
    simp only [h2, decide_true, Bool.true_and] at hk
    exact hk
  · (simp (maxSteps := 1000000) (dsimp := false) (disch := (first | omega | (simp only [okR]; done) | (simp only [sizeR] <;> omega) | fail)) only [↓preR, postR, ↓w_join, Nat.reduceEqDiff, Nat.reduceAdd, Nat.reduceSub, Nat.reduceMul, Int.reduceNeg, Nat.reduceLT, Int.reduceToNat, Nat.reduceLeDiff, Nat.sub_zero, F49, h2])
    simp only [h2, decide_false, Bool.false_and] at hk
    exact hk
theorem rfront_c (hl : s.length ≤ maxLen) (hk : k (.int .i64 (frontF 0 s)) σ) : kCall Tryz.prog 48 [.string (bs s)] σ k := by
  refine f48 ?_
  unfold maxLen at hl
  cases s with
  | nil =>
    (simp (maxSteps := 1000000) (dsimp := false) (disch := (first | omega | (simp only [okR]; done) | (simp only [sizeR] <;> omega) | fail)) only [↓preR, postR, ↓w_join, Nat.reduceEqDiff, Nat.reduceAdd, Nat.reduceSub, Nat.reduceMul, Int.reduceNeg, Nat.reduceLT, Int.reduceToNat, Nat.reduceLeDiff, Nat.sub_zero, F48])
    exact hk
  | cons c t =>
    have hne : (c :: t = []) = False := by simp
    have hlen : (c :: t).length = t.length + 1 := rfl
    rw [hlen] at hl
    (try simp (maxSteps := 1000000) (dsimp := false) (disch := (first | omega | (simp only [okR]; done) | (simp only [sizeR] <;> omega) | fail)) only [↓preR, postR, ↓w_stop, Nat.reduceEqDiff, Nat.reduceAdd, Nat.reduceSub, Nat.reduceMul, Int.reduceNeg, Nat.reduceLT, Int.reduceToNat, Nat.reduceLeDiff, Nat.sub_zero, F48, hne, hlen])
    refine join_by fun J hJ => ?_
    have hg : ((c :: t)[0]?.getD 0) = c := rfl
    have tail : alphaB c = true → J [] σ := by
      intro hA
      have hk2 : k (.int .i64 ((1 + frontF 1 t : Nat) : Int)) σ := by
        simp only [frontF, hA, Bool.true_or, if_true] at hk
        exact hk
      refine hJ _ _ ?_
      clear hJ
      (try simp (maxSteps := 1000000) (dsimp := false) (disch := (first | omega | (simp only [okR]; done) | (simp only [sizeR] <;> omega) | fail)) only [↓preR, postR, ↓w_stop, Nat.reduceEqDiff, Nat.reduceAdd, Nat.reduceSub, Nat.reduceMul, Int.reduceNeg, Nat.reduceLT, Int.reduceToNat, Nat.reduceLeDiff, Nat.sub_zero, hlen])
      refine join_now ?_
      refine loop_inv (fun nn xs s1 => ∃ j : Nat, xs = [.int .i64 ((j + 1 : Nat) : Int)] ∧ σ = s1 ∧ j ≤ t.length ∧ j + frontF (j + 1) (t.drop j) = frontF 1 t ∧ nn = t.length - j) _ ⟨0, rfl, rfl, Nat.zero_le _, by simp, rfl⟩ ?_
      rintro _ _ s1 again ⟨j, rfl, rfl, hj, hf, rfl⟩ hag
      by_cases hlt : j < t.length
      · rw [List.drop_eq_getElem_cons hlt] at hf
        simp only [frontF] at hf
        have h0 : 0 < j + 1 := by omega
        simp only [h0, decide_true, Bool.true_and] at hf
        have hg2 : (t[j]?.getD 0) = t[j] := by simp [hlt]
        (try simp (maxSteps := 1000000) (dsimp := false) (disch := (first | omega | (simp only [okR]; done) | (simp only [sizeR] <;> omega) | fail)) only [↓preR, postR, ↓w_stop, Nat.reduceEqDiff, Nat.reduceAdd, Nat.reduceSub, Nat.reduceMul, Int.reduceNeg, Nat.reduceLT, Int.reduceToNat, Nat.reduceLeDiff, Nat.sub_zero])
        refine join_now ?_
        have next : (1 + frontF (j + 1 + 1) (t.drop (j + 1)) + j = frontF 1 t) → again [.int .i64 ((j + 1 + 1 : Nat) : Int)] σ := fun e => hag _ _ _ ⟨j + 1, rfl, rfl, hlt, by omega, rfl⟩ (by omega)
        (try simp (maxSteps := 1000000) (dsimp := false) (disch := (first | omega | (simp only [okR]; done) | (simp only [sizeR] <;> omega) | fail)) only [↓preR, postR, ↓w_stop, Nat.reduceEqDiff, Nat.reduceAdd, Nat.reduceSub, Nat.reduceMul, Int.reduceNeg, Nat.reduceLT, Int.reduceToNat, Nat.reduceLeDiff, Nat.sub_zero, hlen, hg2])
        refine ralpha_c ?_
        cases hA2 : alphaB t[j] with
        | true =>
          rw [hA2, Bool.true_or, if_pos rfl] at hf
          (try simp (maxSteps := 1000000) (dsimp := false) (disch := (first | omega | (simp only [okR]; done) | (simp only [sizeR] <;> omega) | fail)) only [↓preR, postR, ↓w_join, Nat.reduceEqDiff, Nat.reduceAdd, Nat.reduceSub, Nat.reduceMul, Int.reduceNeg, Nat.reduceLT, Int.reduceToNat, Nat.reduceLeDiff, Nat.sub_zero])
          exact next (by omega)
        | false =>
          rw [hA2, Bool.false_or] at hf
          (try simp (maxSteps := 1000000) (dsimp := false) (disch := (first | omega | (simp only [okR]; done) | (simp only [sizeR] <;> omega) | fail)) only [↓preR, postR, ↓w_stop, Nat.reduceEqDiff, Nat.reduceAdd, Nat.reduceSub, Nat.reduceMul, Int.reduceNeg, Nat.reduceLT, Int.reduceToNat, Nat.reduceLeDiff, Nat.sub_zero, hlen, hg2])
          refine rdigit_c ?_
          cases hD : digitB t[j] with
          | true =>
            rw [hD, if_pos rfl] at hf
            (try simp (maxSteps := 1000000) (dsimp := false) (disch := (first | omega | (simp only [okR]; done) | (simp only [sizeR] <;> omega) | fail)) only [↓preR, postR, ↓w_join, Nat.reduceEqDiff, Nat.reduceAdd, Nat.reduceSub, Nat.reduceMul, Int.reduceNeg, Nat.reduceLT, Int.reduceToNat, Nat.reduceLeDiff, Nat.sub_zero])
            exact next (by omega)
          | false =>
            rw [hD] at hf
            simp at hf
            (try simp (maxSteps := 1000000) (dsimp := false) (disch := (first | omega | (simp only [okR]; done) | (simp only [sizeR] <;> omega) | fail)) only [↓preR, postR, ↓w_join, Nat.reduceEqDiff, Nat.reduceAdd, Nat.reduceSub, Nat.reduceMul, Int.reduceNeg, Nat.reduceLT, Int.reduceToNat, Nat.reduceLeDiff, Nat.sub_zero])
            have e : ((j + 1 : Nat) : Int) = ((1 + frontF 1 t : Nat) : Int) := by omega
            rw [e]
            exact hk2
      · (try simp (maxSteps := 1000000) (dsimp := false) (disch := (first | omega | (simp only [okR]; done) | (simp only [sizeR] <;> omega) | fail)) only [↓preR, postR, ↓w_join, Nat.reduceEqDiff, Nat.reduceAdd, Nat.reduceSub, Nat.reduceMul, Int.reduceNeg, Nat.reduceLT, Int.reduceToNat, Nat.reduceLeDiff, Nat.sub_zero, hlen])
        have : t.drop j = [] := List.drop_of_length_le (by omega)
        rw [this] at hf
        simp only [frontF, Nat.add_zero] at hf
        have e : ((j + 1 : Nat) : Int) = ((1 + frontF 1 t : Nat) : Int) := by omega
        rw [e]
        exact hk2
    clear hJ
    have hF : (c :: t = []) = False := by simp
    (try simp (maxSteps := 1000000) (dsimp := false) (disch := (first | omega | (simp only [okR]; done) | (simp only [sizeR] <;> omega) | fail)) only [↓preR, postR, ↓w_stop, Nat.reduceEqDiff, Nat.reduceAdd, Nat.reduceSub, Nat.reduceMul, Int.reduceNeg, Nat.reduceLT, Int.reduceToNat, Nat.reduceLeDiff, Nat.sub_zero, hlen, hF])
    refine ralpha_c (c := c) ?_
    cases hA : alphaB c with
    | true =>
      (try simp (maxSteps := 1000000) (dsimp := false) (disch := (first | omega | (simp only [okR]; done) | (simp only [sizeR] <;> omega) | fail)) only [↓preR, postR, ↓w_stop, Nat.reduceEqDiff, Nat.reduceAdd, Nat.reduceSub, Nat.reduceMul, Int.reduceNeg, Nat.reduceLT, Int.reduceToNat, Nat.reduceLeDiff, Nat.sub_zero])
      exact tail hA
    | false =>
      (try simp (maxSteps := 1000000) (dsimp := false) (disch := (first | omega | (simp only [okR]; done) | (simp only [sizeR] <;> omega) | fail)) only [↓preR, postR, ↓w_stop, Nat.reduceEqDiff, Nat.reduceAdd, Nat.reduceSub, Nat.reduceMul, Int.reduceNeg, Nat.reduceLT, Int.reduceToNat, Nat.reduceLeDiff, Nat.sub_zero])
      simp only [frontF, hA, Bool.false_or, Nat.lt_irrefl, decide_false, Bool.false_and] at hk
      exact hk
end
end Go.Proofs.YtmgdkoidgoihfaaGreatDoor
