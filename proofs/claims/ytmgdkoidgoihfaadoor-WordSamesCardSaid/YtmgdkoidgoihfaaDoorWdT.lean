/- The law WordSames: whether two words are the same. Conditions: as each theorem says. -/
import Derived.Test.YtmgdkoidgoihfaaDoorWdN
import Derived.Test.YtmgdkoidgoihfaaDoorWdS
namespace Go.Proofs.YtmgdkoidgoihfaaDoor
open E Go.Lib
open Go.RowKit
set_option linter.unusedVariables false
set_option linter.unusedSimpArgs false
set_option maxHeartbeats 1000000
set_option maxRecDepth 20000

theorem sames_law {σ : AS} {v0 v1 : Value} {c : Ce} (h : Hs σ c []) (A0 : ∃ l : List Pt, RepL c v0 l) (A1 : ∃ l : List Pt, RepL c v1 l) : kCall Tryd.prog 3 [v0, v1] σ fun v _ => v = .bool true := by
  obtain ⟨l, hl⟩ := A0
  obtain ⟨m, hm⟩ := A1
  refine f3 ?_
  (try simp (maxSteps := 1000000) (dsimp := false) (disch := (first | omega | (simp only [okR]; done) | (simp only [sizeR] <;> omega) | fail)) only [↓preR, postR, ↓w_stop, Nat.reduceEqDiff, Nat.reduceAdd, Nat.reduceSub, Nat.reduceMul, Int.reduceNeg, Nat.reduceLT, Int.reduceToNat, Nat.reduceLeDiff, Nat.sub_zero, F3])
  refine join_now ?_
  refine size_c _ (Nat.lt_succ_self _) hl h fun n1 s1 hn1 h1 => ?_
  have big : ∀ s2, Hs s2 c [] → kCall Tryd.prog 7 [] s2 fun v13 s => v13 = .bool true := by
    intro s2 h2
    refine awake_c h2 fun X' s3 _ h3 => ?_
    rfl
  have fin : ∀ s2, Hs s2 c [] → kCall Tryd.prog 8 [v0, v1] s2 fun v16 s => kCall Tryd.prog 9 [v0, v1] s fun v19 s =>
      kEq 4 false v16 v19 fun v20 => kGrd v20 true (fun k => kCall Tryd.prog 8 [v0, v0] s fun v24 s => k [v24] s) [undef] s fun xs s => un1 xs fun v24 => kPick v20 v24 (.bool false) fun v25 =>
      kGrd v25 true (fun k => kCall Tryd.prog 7 [] s fun v27 s => k [v27] s) [undef] s fun xs s => un1 xs fun v27 => kPick v25 v27 (.bool false) fun v28 => v28 = .bool true := by
    intro s2 h2
    refine same_c _ (Nat.lt_succ_self _) hl hm h2 fun s3 h3 => ?_
    refine rsame_c _ (Nat.lt_succ_self _) hl hm h3 fun s4 h4 => ?_
    have hb : (eqW l m == eqW l m) = true := by simp
    (try simp (maxSteps := 1000000) (dsimp := false) (disch := (first | omega | (simp only [okR]; done) | (simp only [sizeR] <;> omega) | fail)) only [↓preR, postR, ↓w_stop, Nat.reduceEqDiff, Nat.reduceAdd, Nat.reduceSub, Nat.reduceMul, Int.reduceNeg, Nat.reduceLT, Int.reduceToNat, Nat.reduceLeDiff, Nat.sub_zero, hb])
    refine same_c _ (Nat.lt_succ_self _) hl hl h4 fun s5 h5 => ?_
    rw [eqW_refl]
    (try simp (maxSteps := 1000000) (dsimp := false) (disch := (first | omega | (simp only [okR]; done) | (simp only [sizeR] <;> omega) | fail)) only [↓preR, postR, ↓w_stop, Nat.reduceEqDiff, Nat.reduceAdd, Nat.reduceSub, Nat.reduceMul, Int.reduceNeg, Nat.reduceLT, Int.reduceToNat, Nat.reduceLeDiff, Nat.sub_zero])
    refine awake_c h5 fun X' s6 _ h6 => ?_
    (try simp (maxSteps := 1000000) (dsimp := false) (disch := (first | omega | (simp only [okR]; done) | (simp only [sizeR] <;> omega) | fail)) only [↓preR, postR, ↓w_stop, Nat.reduceEqDiff, Nat.reduceAdd, Nat.reduceSub, Nat.reduceMul, Int.reduceNeg, Nat.reduceLT, Int.reduceToNat, Nat.reduceLeDiff, Nat.sub_zero])
  by_cases g1 : 600 < n1
  · (try simp (maxSteps := 1000000) (dsimp := false) (disch := (first | omega | (simp only [okR]; done) | (simp only [sizeR] <;> omega) | fail)) only [↓preR, postR, ↓w_stop, Nat.reduceEqDiff, Nat.reduceAdd, Nat.reduceSub, Nat.reduceMul, Int.reduceNeg, Nat.reduceLT, Int.reduceToNat, Nat.reduceLeDiff, Nat.sub_zero])
    exact big s1 h1
  (try simp (maxSteps := 1000000) (dsimp := false) (disch := (first | omega | (simp only [okR]; done) | (simp only [sizeR] <;> omega) | fail)) only [↓preR, postR, ↓w_stop, Nat.reduceEqDiff, Nat.reduceAdd, Nat.reduceSub, Nat.reduceMul, Int.reduceNeg, Nat.reduceLT, Int.reduceToNat, Nat.reduceLeDiff, Nat.sub_zero])
  refine size_c _ (Nat.lt_succ_self _) hm h1 fun n2 s2 hn2 h2 => ?_
  by_cases g2 : 600 < n2
  · (try simp (maxSteps := 1000000) (dsimp := false) (disch := (first | omega | (simp only [okR]; done) | (simp only [sizeR] <;> omega) | fail)) only [↓preR, postR, ↓w_stop, Nat.reduceEqDiff, Nat.reduceAdd, Nat.reduceSub, Nat.reduceMul, Int.reduceNeg, Nat.reduceLT, Int.reduceToNat, Nat.reduceLeDiff, Nat.sub_zero])
    exact big s2 h2
  (try simp (maxSteps := 1000000) (dsimp := false) (disch := (first | omega | (simp only [okR]; done) | (simp only [sizeR] <;> omega) | fail)) only [↓preR, postR, ↓w_stop, Nat.reduceEqDiff, Nat.reduceAdd, Nat.reduceSub, Nat.reduceMul, Int.reduceNeg, Nat.reduceLT, Int.reduceToNat, Nat.reduceLeDiff, Nat.sub_zero])
  exact fin s2 h2
end Go.Proofs.YtmgdkoidgoihfaaDoor
