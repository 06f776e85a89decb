/- What the methods of blocks.Store do, part 2. Conditions: as each theorem says. -/
import Derived.Test.YtfiknjogkpbgdaaBlk
namespace Go.Proofs.Ytfiknjogkpbgdaa
open E
set_option linter.unusedVariables false
set_option linter.unusedSimpArgs false
set_option maxHeartbeats 4000000

theorem take_none {w : World} {p s c : Nat} {x : List Value} {st : List Bk} (h : Sto w p s c x st) (hidx : idxOf st = -1) :
    callP Try.prog 10 [.pointer (some ⟨p, 0, none⟩)] w fun v w' => v = .tuple #[.int .i64 0, .int .i64 20] ∧ Keep [] w w' := by
  refine fn_ok c10_ok rfl ?_
  simp (maxSteps := 1000000) (disch := (first | omega | (simp only [sizeR] <;> omega))) only [↓codeR, valR, memR, Nat.reduceEqDiff, Nat.reduceAdd, Nat.reduceSub, Nat.reduceMul, Int.reduceNeg, Nat.reduceLT, Int.reduceToNat, Nat.reduceLeDiff, c10, cel h.ptr]
  refine call_by (idx_any st s c x w h.row h.ok h.few) ?_
  rintro _ w1 ⟨rfl, hk⟩
  rw [hidx]
  simp (maxSteps := 1000000) (disch := (first | omega | (simp only [sizeR] <;> omega))) only [↓codeR, valR, memR, Nat.reduceEqDiff, Nat.reduceAdd, Nat.reduceSub, Nat.reduceMul, Int.reduceNeg, Nat.reduceLT, Int.reduceToNat, Nat.reduceLeDiff]
  exact hk

theorem give_some {w : World} {p s c : Nat} {x : List Value} {st : List Bk} (h : Sto w p s c x st) (i : Nat) (hi : i < st.length) (ht : st[i].1 = true) :
    callP Try.prog 11 [.pointer (some ⟨p, 0, none⟩), .int .i64 (i + 1)] w fun v w' => v = .int .i64 0 ∧ Sto w' p s c x (st.set i (false, st[i].2)) ∧ Keep [p, s] w w' := by
  have h1 := h.few
  have hp := h.ptr
  have hs := h.row
  have hpl := blk_lt hp
  have hsl := blk_lt hs
  have hne := h.ne
  have hfr := free_set st i hi (false, st[i].2)
  have hfl := free_le (st.set i (false, st[i].2))
  rw [ht] at hfr
  simp only [if_true, Bool.true_eq_false, if_false, List.length_set] at hfr hfl
  have hl := encS_len st h.ok
  have hlt : i * 65 < (encS st ++ x).length := by simp [hl]; omega
  refine fn_ok c11_ok rfl ?_
  simp (maxSteps := 1000000) (disch := (first | omega | (simp only [sizeR] <;> omega))) only [↓codeR, valR, memR, Nat.reduceEqDiff, Nat.reduceAdd, Nat.reduceSub, Nat.reduceMul, Int.reduceNeg, Nat.reduceLT, Int.reduceToNat, Nat.reduceLeDiff, c11]
  refine call_by (at_some h i hi ht) ?_
  rintro _ _ ⟨rfl, rfl⟩
  have e : ((free st : Int) + 1) = ((free (st.set i (false, st[i].2)) : Nat) : Int) := by omega
  simp (maxSteps := 1000000) (disch := (first | omega | (simp only [sizeR] <;> omega))) only [↓codeR, valR, memR, Nat.reduceEqDiff, Nat.reduceAdd, Nat.reduceSub, Nat.reduceMul, Int.reduceNeg, Nat.reduceLT, Int.reduceToNat, Nat.reduceLeDiff, cel hp, hp, hs, encS_set1 st h.ok i hi x, e]
  refine ⟨⟨?_, ?_, hne, h.ok.set i _ (h.ok.get i hi), by simpa using h1, by simpa using h.cap⟩, ?_⟩
  · simp (maxSteps := 1000000) (disch := (first | omega | (simp only [sizeR] <;> omega))) only [↓codeR, valR, memR, Nat.reduceEqDiff, Nat.reduceAdd, Nat.reduceSub, Nat.reduceMul, Int.reduceNeg, Nat.reduceLT, Int.reduceToNat, Nat.reduceLeDiff, List.length_set]
  · simp (maxSteps := 1000000) (disch := (first | omega | (simp only [sizeR] <;> omega))) only [↓codeR, valR, memR, Nat.reduceEqDiff, Nat.reduceAdd, Nat.reduceSub, Nat.reduceMul, Int.reduceNeg, Nat.reduceLT, Int.reduceToNat, Nat.reduceLeDiff]
  · exact Keep.put_ (Keep.put_ (Keep.refl _ _) (by simp) _) (by simp) _
theorem give_none {w : World} {p s c : Nat} {x : List Value} {st : List Bk} (h : Sto w p s c x st) (b : Int) (ht : ¬ tkn st b) :
    callP Try.prog 11 [.pointer (some ⟨p, 0, none⟩), .int .i64 b] w fun v w' => v = .int .i64 23 ∧ w' = w := by
  refine fn_ok c11_ok rfl ?_
  simp (maxSteps := 1000000) (disch := (first | omega | (simp only [sizeR] <;> omega))) only [↓codeR, valR, memR, Nat.reduceEqDiff, Nat.reduceAdd, Nat.reduceSub, Nat.reduceMul, Int.reduceNeg, Nat.reduceLT, Int.reduceToNat, Nat.reduceLeDiff, c11]
  refine call_by (at_none h b ht) ?_
  rintro _ _ ⟨rfl, rfl⟩
  simp (maxSteps := 1000000) (disch := (first | omega | (simp only [sizeR] <;> omega))) only [↓codeR, valR, memR, Nat.reduceEqDiff, Nat.reduceAdd, Nat.reduceSub, Nat.reduceMul, Int.reduceNeg, Nat.reduceLT, Int.reduceToNat, Nat.reduceLeDiff]
theorem free_any {w : World} {p s c : Nat} {x : List Value} {st : List Bk} (h : Sto w p s c x st) :
    callP Try.prog 12 [.pointer (some ⟨p, 0, none⟩)] w fun v w' => v = .int .i64 (free st) ∧ w' = w := by
  refine fn_ok c12_ok rfl ?_
  simp (maxSteps := 1000000) (disch := (first | omega | (simp only [sizeR] <;> omega))) only [↓codeR, valR, memR, Nat.reduceEqDiff, Nat.reduceAdd, Nat.reduceSub, Nat.reduceMul, Int.reduceNeg, Nat.reduceLT, Int.reduceToNat, Nat.reduceLeDiff, c12, cel h.ptr]

theorem read_none {w : World} {p s c : Nat} {x : List Value} {st : List Bk} (h : Sto w p s c x st) (b a n : Int) (ht : ¬ tkn st b) :
    callP Try.prog 14 [.pointer (some ⟨p, 0, none⟩), .int .i64 b, .int .i64 a, .int .i64 n] w fun v w' => v = .tuple #[.string (bs []), .int .i64 23] ∧ w' = w := by
  refine fn_ok c14_ok rfl ?_
  simp (maxSteps := 1000000) (disch := (first | omega | (simp only [sizeR] <;> omega))) only [↓codeR, valR, memR, Nat.reduceEqDiff, Nat.reduceAdd, Nat.reduceSub, Nat.reduceMul, Int.reduceNeg, Nat.reduceLT, Int.reduceToNat, Nat.reduceLeDiff, c14]
  refine call_by (at_none h b ht) ?_
  rintro _ _ ⟨rfl, rfl⟩
  simp (maxSteps := 1000000) (disch := (first | omega | (simp only [sizeR] <;> omega))) only [↓codeR, valR, memR, Nat.reduceEqDiff, Nat.reduceAdd, Nat.reduceSub, Nat.reduceMul, Int.reduceNeg, Nat.reduceLT, Int.reduceToNat, Nat.reduceLeDiff]
theorem read_arg {w : World} {p s c : Nat} {x : List Value} {st : List Bk} (h : Sto w p s c x st) (i : Nat) (hi : i < st.length) (ht : st[i].1 = true) (a n : Int) (hn : ¬ (0 ≤ a ∧ a ≤ 64 ∧ 0 ≤ n ∧ n ≤ 64 - a)) :
    callP Try.prog 14 [.pointer (some ⟨p, 0, none⟩), .int .i64 (i + 1), .int .i64 a, .int .i64 n] w fun v w' => v = .tuple #[.string (bs []), .int .i64 1] ∧ w' = w := by
  refine fn_ok c14_ok rfl ?_
  simp (maxSteps := 1000000) (disch := (first | omega | (simp only [sizeR] <;> omega))) only [↓codeR, valR, memR, Nat.reduceEqDiff, Nat.reduceAdd, Nat.reduceSub, Nat.reduceMul, Int.reduceNeg, Nat.reduceLT, Int.reduceToNat, Nat.reduceLeDiff, c14]
  refine call_by (at_some h i hi ht) ?_
  rintro _ _ ⟨rfl, rfl⟩
  by_cases h1 : a < 0
  · simp (maxSteps := 1000000) (disch := (first | omega | (simp only [sizeR] <;> omega))) only [↓codeR, valR, memR, Nat.reduceEqDiff, Nat.reduceAdd, Nat.reduceSub, Nat.reduceMul, Int.reduceNeg, Nat.reduceLT, Int.reduceToNat, Nat.reduceLeDiff]
  · by_cases h2 : 64 < a
    · simp (maxSteps := 1000000) (disch := (first | omega | (simp only [sizeR] <;> omega))) only [↓codeR, valR, memR, Nat.reduceEqDiff, Nat.reduceAdd, Nat.reduceSub, Nat.reduceMul, Int.reduceNeg, Nat.reduceLT, Int.reduceToNat, Nat.reduceLeDiff]
    · by_cases h3 : n < 0
      · simp (maxSteps := 1000000) (disch := (first | omega | (simp only [sizeR] <;> omega))) only [↓codeR, valR, memR, Nat.reduceEqDiff, Nat.reduceAdd, Nat.reduceSub, Nat.reduceMul, Int.reduceNeg, Nat.reduceLT, Int.reduceToNat, Nat.reduceLeDiff]
      · simp (maxSteps := 1000000) (disch := (first | omega | (simp only [sizeR] <;> omega))) only [↓codeR, valR, memR, Nat.reduceEqDiff, Nat.reduceAdd, Nat.reduceSub, Nat.reduceMul, Int.reduceNeg, Nat.reduceLT, Int.reduceToNat, Nat.reduceLeDiff]
theorem read_some {w : World} {p s c : Nat} {x : List Value} {st : List Bk} (h : Sto w p s c x st) (i : Nat) (hi : i < st.length) (ht : st[i].1 = true) (a n : Nat) (hn : a + n ≤ 64) :
    callP Try.prog 14 [.pointer (some ⟨p, 0, none⟩), .int .i64 (i + 1), .int .i64 a, .int .i64 n] w fun v w' => v = .tuple #[.string (bs ((st[i].2.drop a).take n)), .int .i64 0] ∧ w' = w := by
  refine fn_ok c14_ok rfl ?_
  simp (maxSteps := 1000000) (disch := (first | omega | (simp only [sizeR] <;> omega))) only [↓codeR, valR, memR, Nat.reduceEqDiff, Nat.reduceAdd, Nat.reduceSub, Nat.reduceMul, Int.reduceNeg, Nat.reduceLT, Int.reduceToNat, Nat.reduceLeDiff, c14]
  refine call_by (at_some h i hi ht) ?_
  rintro _ _ ⟨rfl, rfl⟩
  have hs := h.row
  have hl := encS_len st h.ok
  have h64 := h.ok.get i hi
  simp (maxSteps := 1000000) (disch := (first | omega | (simp only [sizeR] <;> omega))) only [↓codeR, valR, memR, Nat.reduceEqDiff, Nat.reduceAdd, Nat.reduceSub, Nat.reduceMul, Int.reduceNeg, Nat.reduceLT, Int.reduceToNat, Nat.reduceLeDiff]
  by_cases ha : 64 = a
  · subst ha
    obtain rfl : n = 0 := by omega
    rw [if_pos rfl]
    exact cvb_by (l := []) (by simp) (by simp [ldsV]) (by simp (maxSteps := 1000000) (disch := (first | omega | (simp only [sizeR] <;> omega))) only [↓codeR, valR, memR, Nat.reduceEqDiff, Nat.reduceAdd, Nat.reduceSub, Nat.reduceMul, Int.reduceNeg, Nat.reduceLT, Int.reduceToNat, Nat.reduceLeDiff, List.take_zero])
  · rw [if_neg ha]
    refine cvb_by (l := (st[i].2.drop a).take n) (by simp; omega) ?_ (by simp (maxSteps := 1000000) (disch := (first | omega | (simp only [sizeR] <;> omega))) only [↓codeR, valR, memR, Nat.reduceEqDiff, Nat.reduceAdd, Nat.reduceSub, Nat.reduceMul, Int.reduceNeg, Nat.reduceLT, Int.reduceToNat, Nat.reduceLeDiff])
    rw [ldsB hs _ _ 0 (by simp [hl]; omega)]
    rw [show ((a : Int) + n).toNat - a = n from by omega, Nat.add_zero, encS_bytes st h.ok i hi x a n hn]
    rfl
end Go.Proofs.Ytfiknjogkpbgdaa
