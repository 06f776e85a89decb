/- The chapter's examples of blocks, the nil store, and a block that is taken anew: walks. Conditions: as each theorem says. -/
import Derived.Test.YtfiknjogkpbgdaaBlk3
namespace Go.Proofs.Ytfiknjogkpbgdaa
open E
set_option linter.unusedVariables false
set_option linter.unusedSimpArgs false
set_option maxHeartbeats 4000000

theorem awake_ok (w : World) : callP Try.prog 8 [] w fun v w' => v = .bool true ∧ Keep [] w w' := by
  refine fn_ok c8_ok rfl ?_
  simp (maxSteps := 1000000) (disch := (first | omega | (simp only [sizeR] <;> omega))) only [↓codeR, valR, memR, Nat.reduceEqDiff, Nat.reduceAdd, Nat.reduceSub, Nat.reduceMul, Int.reduceNeg, Nat.reduceLT, Int.reduceToNat, Nat.reduceLeDiff, c8]
  refine call_by (new_some 2 (by omega) (by omega) w) ?_
  rintro _ w1 ⟨rfl, h1, k1⟩
  simp (maxSteps := 1000000) (disch := (first | omega | (simp only [sizeR] <;> omega))) only [↓codeR, valR, memR, Nat.reduceEqDiff, Nat.reduceAdd, Nat.reduceSub, Nat.reduceMul, Int.reduceNeg, Nat.reduceLT, Int.reduceToNat, Nat.reduceLeDiff]
  refine call_by (take_some h1 0 (by decide) (by decide) (by decide)) ?_
  rintro _ w2 ⟨rfl, h2, k2⟩
  simp (maxSteps := 1000000) (disch := (first | omega | (simp only [sizeR] <;> omega))) only [↓codeR, valR, memR, Nat.reduceEqDiff, Nat.reduceAdd, Nat.reduceSub, Nat.reduceMul, Int.reduceNeg, Nat.reduceLT, Int.reduceToNat, Nat.reduceLeDiff]
  refine call_by (take_some h2 1 (by decide) (by decide) (by decide)) ?_
  rintro _ w3 ⟨rfl, h3, k3⟩
  simp (maxSteps := 1000000) (disch := (first | omega | (simp only [sizeR] <;> omega))) only [↓codeR, valR, memR, Nat.reduceEqDiff, Nat.reduceAdd, Nat.reduceSub, Nat.reduceMul, Int.reduceNeg, Nat.reduceLT, Int.reduceToNat, Nat.reduceLeDiff]
  refine call_by (take_none h3 (by decide)) ?_
  rintro _ w4 ⟨rfl, k4⟩
  have h4 := h3.keep0 k4
  simp (maxSteps := 1000000) (disch := (first | omega | (simp only [sizeR] <;> omega))) only [↓codeR, valR, memR, Nat.reduceEqDiff, Nat.reduceAdd, Nat.reduceSub, Nat.reduceMul, Int.reduceNeg, Nat.reduceLT, Int.reduceToNat, Nat.reduceLeDiff]
  refine call_by (give_some h4 0 (by decide) (by decide)) ?_
  rintro _ w5 ⟨rfl, h5, k5⟩
  simp (maxSteps := 1000000) (disch := (first | omega | (simp only [sizeR] <;> omega))) only [↓codeR, valR, memR, Nat.reduceEqDiff, Nat.reduceAdd, Nat.reduceSub, Nat.reduceMul, Int.reduceNeg, Nat.reduceLT, Int.reduceToNat, Nat.reduceLeDiff]
  refine call_by (take_some h5 0 (by decide) (by decide) (by decide)) ?_
  rintro _ w6 ⟨rfl, h6, k6⟩
  simp (maxSteps := 1000000) (disch := (first | omega | (simp only [sizeR] <;> omega))) only [↓codeR, valR, memR, Nat.reduceEqDiff, Nat.reduceAdd, Nat.reduceSub, Nat.reduceMul, Int.reduceNeg, Nat.reduceLT, Int.reduceToNat, Nat.reduceLeDiff]
  refine call_by (read_arg h6 0 (by decide) (by decide) 64 1 (by omega)) ?_
  rintro _ _ ⟨rfl, rfl⟩
  simp (maxSteps := 1000000) (disch := (first | omega | (simp only [sizeR] <;> omega))) only [↓codeR, valR, memR, Nat.reduceEqDiff, Nat.reduceAdd, Nat.reduceSub, Nat.reduceMul, Int.reduceNeg, Nat.reduceLT, Int.reduceToNat, Nat.reduceLeDiff]
  refine call_by (read_some h6 0 (by decide) (by decide) 63 1 (by omega)) ?_
  rintro _ _ ⟨rfl, rfl⟩
  have e : List.take 1 (List.drop 63 ((((((fresh 2).set 0 (true, zero64)).set 1 (true, zero64)).set 0 (false, ((((fresh 2).set 0 (true, zero64)).set 1 (true, zero64))[0]'(by decide)).2)).set 0 (true, zero64))[0]'(by decide)).2) = [0] := by decide
  rw [e]
  simp (maxSteps := 1000000) (disch := (first | omega | (simp only [sizeR] <;> omega))) only [↓codeR, valR, memR, Nat.reduceEqDiff, Nat.reduceAdd, Nat.reduceSub, Nat.reduceMul, Int.reduceNeg, Nat.reduceLT, Int.reduceToNat, Nat.reduceLeDiff]
  have ks : ∀ i, i ∈ [size w + 1, size w] → i ∈ ([] : List Nat) ∨ size w ≤ i := by intro i hi; simp at hi; omega
  exact (((((k1.step k2 ks).step k3 ks).then k4).step k5 ks).step k6 ks)

theorem take_nil (w : World) : callP Try.prog 10 [.pointer none] w fun v w' => v = .tuple #[.int .i64 0, .int .i64 2] ∧ w' = w := by
  refine fn_ok c10_ok rfl ?_
  simp (maxSteps := 1000000) (disch := (first | omega | (simp only [sizeR] <;> omega))) only [↓codeR, valR, memR, Nat.reduceEqDiff, Nat.reduceAdd, Nat.reduceSub, Nat.reduceMul, Int.reduceNeg, Nat.reduceLT, Int.reduceToNat, Nat.reduceLeDiff, c10]
theorem give_nil (b : Int) (w : World) : callP Try.prog 11 [.pointer none, .int .i64 b] w fun v w' => v = .int .i64 2 ∧ w' = w := by
  refine fn_ok c11_ok rfl ?_
  simp (maxSteps := 1000000) (disch := (first | omega | (simp only [sizeR] <;> omega))) only [↓codeR, valR, memR, Nat.reduceEqDiff, Nat.reduceAdd, Nat.reduceSub, Nat.reduceMul, Int.reduceNeg, Nat.reduceLT, Int.reduceToNat, Nat.reduceLeDiff, c11]
theorem read_nil (b a n : Int) (w : World) : callP Try.prog 14 [.pointer none, .int .i64 b, .int .i64 a, .int .i64 n] w fun v w' => v = .tuple #[.string (bs []), .int .i64 2] ∧ w' = w := by
  refine fn_ok c14_ok rfl ?_
  simp (maxSteps := 1000000) (disch := (first | omega | (simp only [sizeR] <;> omega))) only [↓codeR, valR, memR, Nat.reduceEqDiff, Nat.reduceAdd, Nat.reduceSub, Nat.reduceMul, Int.reduceNeg, Nat.reduceLT, Int.reduceToNat, Nat.reduceLeDiff, c14]
theorem write_nil (b a : Int) (s : ByteArray) (w : World) : callP Try.prog 13 [.pointer none, .int .i64 b, .int .i64 a, .string s] w fun v w' => v = .int .i64 2 ∧ w' = w := by
  refine fn_ok c13_ok rfl ?_
  simp (maxSteps := 1000000) (disch := (first | omega | (simp only [sizeR] <;> omega))) only [↓codeR, valR, memR, Nat.reduceEqDiff, Nat.reduceAdd, Nat.reduceSub, Nat.reduceMul, Int.reduceNeg, Nat.reduceLT, Int.reduceToNat, Nat.reduceLeDiff, c13]
theorem free_nil (w : World) : callP Try.prog 12 [.pointer none] w fun v w' => v = .int .i64 0 ∧ w' = w := by
  refine fn_ok c12_ok rfl ?_
  simp (maxSteps := 1000000) (disch := (first | omega | (simp only [sizeR] <;> omega))) only [↓codeR, valR, memR, Nat.reduceEqDiff, Nat.reduceAdd, Nat.reduceSub, Nat.reduceMul, Int.reduceNeg, Nat.reduceLT, Int.reduceToNat, Nat.reduceLeDiff, c12]
theorem copy_nil (w : World) : callP Try.prog 20 [.pointer none] w fun v w' => v = .pointer none ∧ w' = w := by
  refine fn_ok c20_ok rfl ?_
  simp (maxSteps := 1000000) (disch := (first | omega | (simp only [sizeR] <;> omega))) only [↓codeR, valR, memR, Nat.reduceEqDiff, Nat.reduceAdd, Nat.reduceSub, Nat.reduceMul, Int.reduceNeg, Nat.reduceLT, Int.reduceToNat, Nat.reduceLeDiff, c20]

theorem nil_law (b : Int) (s : ByteArray) (w : World) : callP Try.prog 7 [.int .i64 b, .string s] w fun v w' => v = .bool true ∧ Keep [] w w' := by
  refine fn_ok c7_ok rfl ?_
  simp (maxSteps := 1000000) (disch := (first | omega | (simp only [sizeR] <;> omega))) only [↓codeR, valR, memR, Nat.reduceEqDiff, Nat.reduceAdd, Nat.reduceSub, Nat.reduceMul, Int.reduceNeg, Nat.reduceLT, Int.reduceToNat, Nat.reduceLeDiff, c7]
  refine call_by (take_nil w) ?_
  rintro _ _ ⟨rfl, rfl⟩
  simp (maxSteps := 1000000) (disch := (first | omega | (simp only [sizeR] <;> omega))) only [↓codeR, valR, memR, Nat.reduceEqDiff, Nat.reduceAdd, Nat.reduceSub, Nat.reduceMul, Int.reduceNeg, Nat.reduceLT, Int.reduceToNat, Nat.reduceLeDiff]
  refine call_by (read_nil b b b _) ?_
  rintro _ _ ⟨rfl, rfl⟩
  simp (maxSteps := 1000000) (disch := (first | omega | (simp only [sizeR] <;> omega))) only [↓codeR, valR, memR, Nat.reduceEqDiff, Nat.reduceAdd, Nat.reduceSub, Nat.reduceMul, Int.reduceNeg, Nat.reduceLT, Int.reduceToNat, Nat.reduceLeDiff]
  refine call_by (give_nil b _) ?_
  rintro _ _ ⟨rfl, rfl⟩
  simp (maxSteps := 1000000) (disch := (first | omega | (simp only [sizeR] <;> omega))) only [↓codeR, valR, memR, Nat.reduceEqDiff, Nat.reduceAdd, Nat.reduceSub, Nat.reduceMul, Int.reduceNeg, Nat.reduceLT, Int.reduceToNat, Nat.reduceLeDiff]
  refine call_by (write_nil b b s _) ?_
  rintro _ _ ⟨rfl, rfl⟩
  simp (maxSteps := 1000000) (disch := (first | omega | (simp only [sizeR] <;> omega))) only [↓codeR, valR, memR, Nat.reduceEqDiff, Nat.reduceAdd, Nat.reduceSub, Nat.reduceMul, Int.reduceNeg, Nat.reduceLT, Int.reduceToNat, Nat.reduceLeDiff]
  refine call_by (free_nil _) ?_
  rintro _ _ ⟨rfl, rfl⟩
  simp (maxSteps := 1000000) (disch := (first | omega | (simp only [sizeR] <;> omega))) only [↓codeR, valR, memR, Nat.reduceEqDiff, Nat.reduceAdd, Nat.reduceSub, Nat.reduceMul, Int.reduceNeg, Nat.reduceLT, Int.reduceToNat, Nat.reduceLeDiff]
  refine call_by (copy_nil _) ?_
  rintro _ _ ⟨rfl, rfl⟩
  simp (maxSteps := 1000000) (disch := (first | omega | (simp only [sizeR] <;> omega))) only [↓codeR, valR, memR, Nat.reduceEqDiff, Nat.reduceAdd, Nat.reduceSub, Nat.reduceMul, Int.reduceNeg, Nat.reduceLT, Int.reduceToNat, Nat.reduceLeDiff]
  refine call_by (awake_ok _) ?_
  rintro _ w1 ⟨rfl, k1⟩
  simp (maxSteps := 1000000) (disch := (first | omega | (simp only [sizeR] <;> omega))) only [↓codeR, valR, memR, Nat.reduceEqDiff, Nat.reduceAdd, Nat.reduceSub, Nat.reduceMul, Int.reduceNeg, Nat.reduceLT, Int.reduceToNat, Nat.reduceLeDiff]
  exact k1
end Go.Proofs.Ytfiknjogkpbgdaa
