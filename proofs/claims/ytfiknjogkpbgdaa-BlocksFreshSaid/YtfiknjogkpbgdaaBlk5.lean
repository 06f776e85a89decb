/- A block that is taken anew: the walk. Conditions: as each theorem says. -/
import Derived.Test.YtfiknjogkpbgdaaBlk4
namespace Go.Proofs.Ytfiknjogkpbgdaa
open E
set_option linter.unusedVariables false
set_option linter.unusedSimpArgs false
set_option maxHeartbeats 4000000

theorem fresh_law (s : List UInt8) (w : World) (hs : s.length ≤ 9223372036854775807) : callP Try.prog 4 [.string (bs s)] w fun v w' => v = .bool true ∧ Keep [] w w' := by
  refine fn_ok c4_ok rfl ?_
  by_cases hlen : 64 < s.length
  · simp (maxSteps := 1000000) (disch := (first | omega | (simp only [sizeR] <;> omega))) only [↓codeR, valR, memR, Nat.reduceEqDiff, Nat.reduceAdd, Nat.reduceSub, Nat.reduceMul, Int.reduceNeg, Nat.reduceLT, Int.reduceToNat, Nat.reduceLeDiff, c4]
    refine call_by (awake_ok _) ?_
    rintro _ w1 ⟨rfl, k1⟩
    simp (maxSteps := 1000000) (disch := (first | omega | (simp only [sizeR] <;> omega))) only [↓codeR, valR, memR, Nat.reduceEqDiff, Nat.reduceAdd, Nat.reduceSub, Nat.reduceMul, Int.reduceNeg, Nat.reduceLT, Int.reduceToNat, Nat.reduceLeDiff]
    exact k1
  · simp (maxSteps := 1000000) (disch := (first | omega | (simp only [sizeR] <;> omega))) only [↓codeR, valR, memR, Nat.reduceEqDiff, Nat.reduceAdd, Nat.reduceSub, Nat.reduceMul, Int.reduceNeg, Nat.reduceLT, Int.reduceToNat, Nat.reduceLeDiff, c4]
    refine call_by (new_some 3 (by omega) (by omega) w) ?_
    rintro _ w1 ⟨rfl, h1, k1⟩
    simp (maxSteps := 1000000) (disch := (first | omega | (simp only [sizeR] <;> omega))) only [↓codeR, valR, memR, Nat.reduceEqDiff, Nat.reduceAdd, Nat.reduceSub, Nat.reduceMul, Int.reduceNeg, Nat.reduceLT, Int.reduceToNat, Nat.reduceLeDiff]
    refine call_by (take_some h1 0 (by decide) (by decide) (by decide)) ?_
    rintro _ w2 ⟨rfl, h2, k2⟩
    simp (maxSteps := 1000000) (disch := (first | omega | (simp only [sizeR] <;> omega))) only [↓codeR, valR, memR, Nat.reduceEqDiff, Nat.reduceAdd, Nat.reduceSub, Nat.reduceMul, Int.reduceNeg, Nat.reduceLT, Int.reduceToNat, Nat.reduceLeDiff]
    refine call_by (write_some h2 0 (by decide) (by decide) 0 s (by omega)) ?_
    rintro _ w3 ⟨rfl, h3, k3⟩
    simp (maxSteps := 1000000) (disch := (first | omega | (simp only [sizeR] <;> omega))) only [↓codeR, valR, memR, Nat.reduceEqDiff, Nat.reduceAdd, Nat.reduceSub, Nat.reduceMul, Int.reduceNeg, Nat.reduceLT, Int.reduceToNat, Nat.reduceLeDiff]
    refine call_by (give_some h3 0 (by simp [fresh]) (by simp [fresh])) ?_
    rintro _ w4 ⟨rfl, h4, k4⟩
    simp (maxSteps := 1000000) (disch := (first | omega | (simp only [sizeR] <;> omega))) only [↓codeR, valR, memR, Nat.reduceEqDiff, Nat.reduceAdd, Nat.reduceSub, Nat.reduceMul, Int.reduceNeg, Nat.reduceLT, Int.reduceToNat, Nat.reduceLeDiff]
    have e4 : ∀ b : List UInt8, ¬ tkn ((((fresh 3).set 0 (true, zero64)).set 0 (true, b)).set 0 (false, b)) 1 := by
      rintro b ⟨i, hi, h, ht⟩
      have : i = 0 := by omega
      subst this
      simp [fresh] at ht
    refine call_by (read_none h4 1 0 0 (by simpa [fresh] using e4 _)) ?_
    rintro _ _ ⟨rfl, rfl⟩
    simp (maxSteps := 1000000) (disch := (first | omega | (simp only [sizeR] <;> omega))) only [↓codeR, valR, memR, Nat.reduceEqDiff, Nat.reduceAdd, Nat.reduceSub, Nat.reduceMul, Int.reduceNeg, Nat.reduceLT, Int.reduceToNat, Nat.reduceLeDiff]
    refine call_by (take_some h4 0 (by simp [fresh]) (idxOf_some _ 0 (by simp [fresh]) (by intro j hj; omega) (by simp [fresh])) (by simp [fresh])) ?_
    rintro _ w5 ⟨rfl, h5, k5⟩
    simp (maxSteps := 1000000) (disch := (first | omega | (simp only [sizeR] <;> omega))) only [↓codeR, valR, memR, Nat.reduceEqDiff, Nat.reduceAdd, Nat.reduceSub, Nat.reduceMul, Int.reduceNeg, Nat.reduceLT, Int.reduceToNat, Nat.reduceLeDiff]
    refine call_by (read_some h5 0 (by simp [fresh]) (by simp [fresh]) 0 64 (by omega)) ?_
    rintro _ _ ⟨rfl, rfl⟩
    generalize hq : List.take 64 (List.drop 0 _) = q
    have hq' : q = zero64 := by rw [← hq]; simp [fresh, zero64]
    subst hq'
    simp (maxSteps := 1000000) (disch := (first | omega | (simp only [sizeR] <;> omega))) only [↓codeR, valR, memR, Nat.reduceEqDiff, Nat.reduceAdd, Nat.reduceSub, Nat.reduceMul, Int.reduceNeg, Nat.reduceLT, Int.reduceToNat, Nat.reduceLeDiff]
    refine mks_by (by omega) (by omega) (by omega) (by omega) rfl (by omega) ?_
    simp (maxSteps := 1000000) (disch := (first | omega | (simp only [sizeR] <;> omega))) only [↓codeR, valR, memR, Nat.reduceEqDiff, Nat.reduceAdd, Nat.reduceSub, Nat.reduceMul, Int.reduceNeg, Nat.reduceLT, Int.reduceToNat, Nat.reduceLeDiff]
    refine cvb_by (l := zero64) rfl ?_ ?_
    · rw [ldsB (blk_new _ _ _) 0 64 0 (by decide)]; rfl
    · simp (maxSteps := 1000000) (disch := (first | omega | (simp only [sizeR] <;> omega))) only [↓codeR, valR, memR, Nat.reduceEqDiff, Nat.reduceAdd, Nat.reduceSub, Nat.reduceMul, Int.reduceNeg, Nat.reduceLT, Int.reduceToNat, Nat.reduceLeDiff]
      refine call_by (awake_ok _) ?_
      rintro _ w6 ⟨rfl, k6⟩
      simp (maxSteps := 1000000) (disch := (first | omega | (simp only [sizeR] <;> omega))) only [↓codeR, valR, memR, Nat.reduceEqDiff, Nat.reduceAdd, Nat.reduceSub, Nat.reduceMul, Int.reduceNeg, Nat.reduceLT, Int.reduceToNat, Nat.reduceLeDiff]
      have ks : ∀ i, i ∈ [size w + 1, size w] → i ∈ ([] : List Nat) ∨ size w ≤ i := by intro i hi; simp at hi; omega
      exact (((((k1.step k2 ks).step k3 ks).step k4 ks).step k5 ks).new_ _ _).then k6
theorem fresh_law' (s : ByteArray) (w : World) (hs : s.size ≤ maxLen) : callP Try.prog 4 [.string s] w fun v w' => v = .bool true ∧ Keep [] w w' := by
  have h := fresh_law s.data.toList w (by
    show s.data.toList.length ≤ _
    have : s.data.toList.length = s.size := by simp [ByteArray.size_data]
    unfold maxLen at hs
    omega)
  rwa [← bs_of] at h
end Go.Proofs.Ytfiknjogkpbgdaa
