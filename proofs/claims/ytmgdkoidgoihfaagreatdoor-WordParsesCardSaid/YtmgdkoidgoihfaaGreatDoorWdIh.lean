/- Words: a text in place. Conditions: as each theorem says. -/
import Derived.Test.YtmgdkoidgoihfaaGreatDoorWdG
namespace Go.Proofs.YtmgdkoidgoihfaaGreatDoor
open E Go.Lib
open Go.RowKit
set_option linter.unusedVariables false
set_option linter.unusedSimpArgs false
set_option maxHeartbeats 1000000
set_option maxRecDepth 20000

section
variable {σ σ' : AS} {X : Ce} {R : List Ck} {k : Value → AS → Prop} {p n i f : Nat} {e : Int} {out : List Pt} {s t : Str} {c : UInt8} {way : Nat} {q : Bool}
theorem here_c (h : Hs σ X R) (hk : WK X R k (wordW s 5)) (hs : s.length ≤ maxLen) : kCall Tryz.prog 8 [.string (bs s)] σ k := by
  unfold wordW at hk
  unfold maxLen at hs
  refine f8 ?_
  (try simp (maxSteps := 1000000) (dsimp := false) (disch := (first | omega | (simp only [okR]; done) | (simp only [sizeR] <;> omega) | fail)) only [↓preR, postR, ↓w_stop, Nat.reduceEqDiff, Nat.reduceAdd, Nat.reduceSub, Nat.reduceMul, Int.reduceNeg, Nat.reduceLT, Int.reduceToNat, Nat.reduceLeDiff, Nat.sub_zero, F8])
  refine join_now ?_
  by_cases hl : 4096 < s.length
  · rw [if_pos hl] at hk
    (try simp (maxSteps := 1000000) (dsimp := false) (disch := (first | omega | (simp only [okR]; done) | (simp only [sizeR] <;> omega) | fail)) only [↓preR, postR, ↓w_stop, Nat.reduceEqDiff, Nat.reduceAdd, Nat.reduceSub, Nat.reduceMul, Int.reduceNeg, Nat.reduceLT, Int.reduceToNat, Nat.reduceLeDiff, Nat.sub_zero])
    exact hk X _ (Ce.le_refl _) h
  · rw [if_neg hl] at hk
    (try simp (maxSteps := 1000000) (dsimp := false) (disch := (first | omega | (simp only [okR]; done) | (simp only [sizeR] <;> omega) | fail)) only [↓preR, postR, ↓w_stop, Nat.reduceEqDiff, Nat.reduceAdd, Nat.reduceSub, Nat.reduceMul, Int.reduceNeg, Nat.reduceLT, Int.reduceToNat, Nat.reduceLeDiff, Nat.sub_zero])
    refine read_c (s.length + 1) (way := 5) (by omega) (by omega) (by omega) h ?_
    cases hr : rdP (s.length + 1) s 5 [] with
    | ok w =>
      rw [hr] at hk
      intro X' v s1 hX hv h1
      (try simp (maxSteps := 1000000) (dsimp := false) (disch := (first | omega | (simp only [okR]; done) | (simp only [sizeR] <;> omega) | fail)) only [↓preR, postR, ↓w_stop, Nat.reduceEqDiff, Nat.reduceAdd, Nat.reduceSub, Nat.reduceMul, Int.reduceNeg, Nat.reduceLT, Int.reduceToNat, Nat.reduceLeDiff, Nat.sub_zero])
      exact hk X' v _ hX hv h1
    | bad e =>
      rw [hr] at hk
      intro X' s1 hX h1
      (try simp (maxSteps := 1000000) (dsimp := false) (disch := (first | omega | (simp only [okR]; done) | (simp only [sizeR] <;> omega) | fail)) only [↓preR, postR, ↓w_stop, Nat.reduceEqDiff, Nat.reduceAdd, Nat.reduceSub, Nat.reduceMul, Int.reduceNeg, Nat.reduceLT, Int.reduceToNat, Nat.reduceLeDiff, Nat.sub_zero])
      exact hk X' _ hX h1
end
end Go.Proofs.YtmgdkoidgoihfaaGreatDoor
