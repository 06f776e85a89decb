/- Names: which bytes they have. Conditions: none. -/
import Derived.Test.YtpnefcapiiemdaaGreatDoorOe
import Derived.Test.YtpnefcapiiemdaaGreatDoorC
namespace Go.Proofs.YtpnefcapiiemdaaGreatDoor
open E Go.Lib
set_option linter.unusedVariables false
set_option linter.unusedSimpArgs false
set_option maxHeartbeats 1000000
set_option maxRecDepth 20000
def orV (c : UInt8) : Int := match binV .or (.int .u8 c.toNat) (.int .u8 32) with
  | some (.int _ n) => n
  | _ => 0
theorem or32 (c : UInt8) : binV .or (.int .u8 (c.toNat : Int)) (.int .u8 32) = some (.int .u8 (orV c)) := rfl
def alphaB (c : UInt8) : Bool := decide ((c.toNat : Int) = 95) || (decide (97 ≤ orV c) && decide (orV c ≤ 122))
def digitB (c : UInt8) : Bool := decide (48 ≤ (c.toNat : Int)) && decide ((c.toNat : Int) ≤ 57)
def frontF : Nat → List UInt8 → Nat
  | _, [] => 0
  | i, c :: t => if alphaB c || (decide (0 < i) && digitB c) then 1 + frontF (i + 1) t else 0
def nameB (s : List UInt8) : Bool := decide (s ≠ []) && decide (frontF 0 s = s.length)
section
variable {σ σ' : AS} {X : Ce} {R : List Ck} {k : Value → AS → Prop} {s : List UInt8} {c : UInt8}
theorem alpha_c (hk : k (.bool (alphaB c)) σ) : kCall Tryz.prog 52 [.int .u8 c.toNat] σ k := by
  refine f52 ?_
  unfold alphaB at hk
  by_cases h1 : (c.toNat : Int) = 95
  · (simp (maxSteps := 1000000) (dsimp := false) (disch := (first | omega | (simp only [okR]; done) | (simp only [sizeR] <;> omega) | fail)) only [↓preR, postR, ↓w_join, Nat.reduceEqDiff, Nat.reduceAdd, Nat.reduceSub, Nat.reduceMul, Int.reduceNeg, Nat.reduceLT, Int.reduceToNat, Nat.reduceLeDiff, Nat.sub_zero, F52, h1])
    simp only [h1, decide_true, Bool.true_or] at hk
    exact hk
  · simp only [h1, decide_false, Bool.false_or] at hk
    by_cases h2 : 97 ≤ orV c
    · (simp (maxSteps := 1000000) (dsimp := false) (disch := (first | omega | (simp only [okR]; done) | (simp only [sizeR] <;> omega) | fail)) only [↓preR, postR, ↓w_join, Nat.reduceEqDiff, Nat.reduceAdd, Nat.reduceSub, Nat.reduceMul, Int.reduceNeg, Nat.reduceLT, Int.reduceToNat, Nat.reduceLeDiff, Nat.sub_zero, F52, h1, or32, h2])
      simp only [h2, decide_true, Bool.true_and] at hk
      exact hk
    · (simp (maxSteps := 1000000) (dsimp := false) (disch := (first | omega | (simp only [okR]; done) | (simp only [sizeR] <;> omega) | fail)) only [↓preR, postR, ↓w_join, Nat.reduceEqDiff, Nat.reduceAdd, Nat.reduceSub, Nat.reduceMul, Int.reduceNeg, Nat.reduceLT, Int.reduceToNat, Nat.reduceLeDiff, Nat.sub_zero, F52, h1, or32, h2])
      simp only [h2, decide_false, Bool.false_and] at hk
      exact hk
theorem digit_c (hk : k (.bool (digitB c)) σ) : kCall Tryz.prog 53 [.int .u8 c.toNat] σ k := by
  refine f53 ?_
  unfold digitB at hk
  by_cases h2 : 48 ≤ (c.toNat : Int)
  · (simp (maxSteps := 1000000) (dsimp := false) (disch := (first | omega | (simp only [okR]; done) | (simp only [sizeR] <;> omega) | fail)) only [↓preR, postR, ↓w_join, Nat.reduceEqDiff, Nat.reduceAdd, Nat.reduceSub, Nat.reduceMul, Int.reduceNeg, Nat.reduceLT, Int.reduceToNat, Nat.reduceLeDiff, Nat.sub_zero, F53, h2])
    simp only [h2, decide_true, Bool.true_and] at hk
    exact hk
  · (simp (maxSteps := 1000000) (dsimp := false) (disch := (first | omega | (simp only [okR]; done) | (simp only [sizeR] <;> omega) | fail)) only [↓preR, postR, ↓w_join, Nat.reduceEqDiff, Nat.reduceAdd, Nat.reduceSub, Nat.reduceMul, Int.reduceNeg, Nat.reduceLT, Int.reduceToNat, Nat.reduceLeDiff, Nat.sub_zero, F53, h2])
    simp only [h2, decide_false, Bool.false_and] at hk
    exact hk
theorem front_c (hl : s.length ≤ maxLen) (hk : k (.int .i64 (frontF 0 s)) σ) : kCall Tryz.prog 45 [.string (bs s)] σ k := by
  refine f45 ?_
  unfold maxLen at hl
  (try simp (maxSteps := 1000000) (dsimp := false) (disch := (first | omega | (simp only [okR]; done) | (simp only [sizeR] <;> omega) | fail)) only [↓preR, postR, ↓w_stop, Nat.reduceEqDiff, Nat.reduceAdd, Nat.reduceSub, Nat.reduceMul, Int.reduceNeg, Nat.reduceLT, Int.reduceToNat, Nat.reduceLeDiff, Nat.sub_zero, F45])
  refine join_now ?_
  refine loop_inv (fun nn xs s1 => ∃ j : Nat, xs = [.int .i64 j] ∧ σ = s1 ∧ j ≤ s.length ∧ j + frontF j (s.drop j) = frontF 0 s ∧ nn = s.length - j) _ ⟨0, rfl, rfl, Nat.zero_le _, by simp, rfl⟩ ?_
  rintro _ _ s1 again ⟨j, rfl, rfl, hj, hf, rfl⟩ hag
  by_cases hlt : j < s.length
  · rw [List.drop_eq_getElem_cons hlt] at hf
    simp only [frontF] at hf
    have hg : (s[j]?.getD 0) = s[j] := by simp [hlt]
    (try simp (maxSteps := 1000000) (dsimp := false) (disch := (first | omega | (simp only [okR]; done) | (simp only [sizeR] <;> omega) | fail)) only [↓preR, postR, ↓w_join, Nat.reduceEqDiff, Nat.reduceAdd, Nat.reduceSub, Nat.reduceMul, Int.reduceNeg, Nat.reduceLT, Int.reduceToNat, Nat.reduceLeDiff, Nat.sub_zero])
    refine alpha_c ?_
    rw [hg]
    have next : (1 + frontF (j + 1) (s.drop (j + 1)) + j = frontF 0 s) → again [.int .i64 ((j + 1 : Nat) : Int)] σ := fun e => hag _ _ _ ⟨j + 1, rfl, rfl, hlt, by omega, rfl⟩ (by omega)
    cases hA : alphaB s[j] with
    | true =>
      rw [hA, Bool.true_or, if_pos rfl] at hf
      (try simp (maxSteps := 1000000) (dsimp := false) (disch := (first | omega | (simp only [okR]; done) | (simp only [sizeR] <;> omega) | fail)) only [↓preR, postR, ↓w_join, Nat.reduceEqDiff, Nat.reduceAdd, Nat.reduceSub, Nat.reduceMul, Int.reduceNeg, Nat.reduceLT, Int.reduceToNat, Nat.reduceLeDiff, Nat.sub_zero])
      exact next (by omega)
    | false =>
      rw [hA, Bool.false_or] at hf
      by_cases hj0 : j = 0
      · subst hj0
        (try simp (maxSteps := 1000000) (dsimp := false) (disch := (first | omega | (simp only [okR]; done) | (simp only [sizeR] <;> omega) | fail)) only [↓preR, postR, ↓w_join, Nat.reduceEqDiff, Nat.reduceAdd, Nat.reduceSub, Nat.reduceMul, Int.reduceNeg, Nat.reduceLT, Int.reduceToNat, Nat.reduceLeDiff, Nat.sub_zero])
        simp at hf
        rw [← hf] at hk
        exact hk
      · have h0 : 0 < j := by omega
        (try simp (maxSteps := 1000000) (dsimp := false) (disch := (first | omega | (simp only [okR]; done) | (simp only [sizeR] <;> omega) | fail)) only [↓preR, postR, ↓w_join, Nat.reduceEqDiff, Nat.reduceAdd, Nat.reduceSub, Nat.reduceMul, Int.reduceNeg, Nat.reduceLT, Int.reduceToNat, Nat.reduceLeDiff, Nat.sub_zero])
        refine digit_c ?_
        rw [hg]
        simp only [h0, decide_true, Bool.true_and] at hf
        cases hD : digitB s[j] with
        | true =>
          rw [hD, if_pos rfl] at hf
          (try simp (maxSteps := 1000000) (dsimp := false) (disch := (first | omega | (simp only [okR]; done) | (simp only [sizeR] <;> omega) | fail)) only [↓preR, postR, ↓w_join, Nat.reduceEqDiff, Nat.reduceAdd, Nat.reduceSub, Nat.reduceMul, Int.reduceNeg, Nat.reduceLT, Int.reduceToNat, Nat.reduceLeDiff, Nat.sub_zero])
          exact next (by omega)
        | false =>
          rw [hD] at hf
          simp at hf
          (try simp (maxSteps := 1000000) (dsimp := false) (disch := (first | omega | (simp only [okR]; done) | (simp only [sizeR] <;> omega) | fail)) only [↓preR, postR, ↓w_join, Nat.reduceEqDiff, Nat.reduceAdd, Nat.reduceSub, Nat.reduceMul, Int.reduceNeg, Nat.reduceLT, Int.reduceToNat, Nat.reduceLeDiff, Nat.sub_zero])
          rw [hf]
          exact hk
  · (try simp (maxSteps := 1000000) (dsimp := false) (disch := (first | omega | (simp only [okR]; done) | (simp only [sizeR] <;> omega) | fail)) only [↓preR, postR, ↓w_join, Nat.reduceEqDiff, Nat.reduceAdd, Nat.reduceSub, Nat.reduceMul, Int.reduceNeg, Nat.reduceLT, Int.reduceToNat, Nat.reduceLeDiff, Nat.sub_zero])
    have : s.drop j = [] := List.drop_of_length_le (by omega)
    rw [this] at hf
    simp only [frontF, Nat.add_zero] at hf
    rw [hf]
    exact hk
theorem name_c (hl : s.length ≤ maxLen) (hk : k (.bool (nameB s)) σ) : kCall Tryz.prog 29 [.string (bs s)] σ k := by
  refine f29 ?_
  unfold nameB at hk
  by_cases h0 : s = []
  · (try simp (maxSteps := 1000000) (dsimp := false) (disch := (first | omega | (simp only [okR]; done) | (simp only [sizeR] <;> omega) | fail)) only [↓preR, postR, ↓w_join, Nat.reduceEqDiff, Nat.reduceAdd, Nat.reduceSub, Nat.reduceMul, Int.reduceNeg, Nat.reduceLT, Int.reduceToNat, Nat.reduceLeDiff, Nat.sub_zero, F29, h0])
    simp only [h0, ne_eq, not_true_eq_false, decide_false, Bool.false_and] at hk
    exact hk
  · (try simp (maxSteps := 1000000) (dsimp := false) (disch := (first | omega | (simp only [okR]; done) | (simp only [sizeR] <;> omega) | fail)) only [↓preR, postR, ↓w_join, Nat.reduceEqDiff, Nat.reduceAdd, Nat.reduceSub, Nat.reduceMul, Int.reduceNeg, Nat.reduceLT, Int.reduceToNat, Nat.reduceLeDiff, Nat.sub_zero, F29, h0])
    refine front_c hl ?_
    simp only [ne_eq, h0, not_false_eq_true, decide_true, Bool.true_and] at hk
    by_cases h1 : frontF 0 s = s.length
    · (try simp (maxSteps := 1000000) (dsimp := false) (disch := (first | omega | (simp only [okR]; done) | (simp only [sizeR] <;> omega) | fail)) only [↓preR, postR, ↓w_join, Nat.reduceEqDiff, Nat.reduceAdd, Nat.reduceSub, Nat.reduceMul, Int.reduceNeg, Nat.reduceLT, Int.reduceToNat, Nat.reduceLeDiff, Nat.sub_zero, h1])
      simp only [h1, decide_true] at hk
      exact hk
    · have h2 : ¬ ((frontF 0 s : Int) = s.length) := by omega
      (try simp (maxSteps := 1000000) (dsimp := false) (disch := (first | omega | (simp only [okR]; done) | (simp only [sizeR] <;> omega) | fail)) only [↓preR, postR, ↓w_join, Nat.reduceEqDiff, Nat.reduceAdd, Nat.reduceSub, Nat.reduceMul, Int.reduceNeg, Nat.reduceLT, Int.reduceToNat, Nat.reduceLeDiff, Nat.sub_zero, h2])
      simp only [h1, decide_false] at hk
      exact hk
end
end Go.Proofs.YtpnefcapiiemdaaGreatDoor
