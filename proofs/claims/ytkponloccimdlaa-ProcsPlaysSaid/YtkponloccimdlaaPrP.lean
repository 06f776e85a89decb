/- Processes as the document's answer has them: a call. Conditions: as each theorem says. -/
import Derived.Test.YtkponloccimdlaaPrU
namespace Go.Proofs.Ytkponloccimdlaa
open E Go.Lib PT
set_option linter.unusedVariables false
set_option linter.unusedSimpArgs false
set_option maxHeartbeats 1000000
set_option maxRecDepth 20000

section
variable {σ σ' : AS} {X : Ce} {R : List Ck} {k : Value → AS → Prop} {r g N : Nat} {f f' : PV} {ask p n a b e : Int}
theorem rplain_c (hx : DoX f N ask p n a b e f') (hi : Inv f N) (h : Hs σ X (RT r g N f R)) (hN : N ≤ 1024) (hn : inI64 n)
    (hk : ∀ σ', Hs σ' X (RT r g N f' R) → k (.tuple #[.int .i64 a, .int .i64 b, .int .i64 e]) σ') :
    kCall Try.prog 15 [pp r, .agg [.int .i64 ask, .int .i64 p, .int .i64 n].toArray] σ k := by
  refine f15 ?_
  have h0 : Hs _ X (RT r g N f R) := (h.junk (.cells [.int .i64 ask, .int .i64 p, .int .i64 n]))
  by_cases a0 : ask = 0
  · subst a0
    (try simp (maxSteps := 1000000) (dsimp := false) (disch := (first | omega | (simp only [okR]; done) | (simp only [sizeR] <;> omega) | fail)) only [↓preR, postR, ↓w_join, Nat.reduceEqDiff, Nat.reduceAdd, Nat.reduceSub, Nat.reduceMul, Int.reduceNeg, Nat.reduceLT, Int.reduceToNat, Nat.reduceLeDiff, Nat.sub_zero, F15])
    refine rfork_c hi.rg h0 hN (fun σ1 h1 h2 h3 => ?_) (fun σ1 h1 h2 h3 => ?_) (fun a' σ1 h1 h2 h3 h4 h5 h6 => ?_)
    · cases hx with
      | forkNone _ _ => (try simp (maxSteps := 1000000) (dsimp := false) (disch := (first | omega | (simp only [okR]; done) | (simp only [sizeR] <;> omega) | fail)) only [↓preR, postR, ↓w_join, Nat.reduceEqDiff, Nat.reduceAdd, Nat.reduceSub, Nat.reduceMul, Int.reduceNeg, Nat.reduceLT, Int.reduceToNat, Nat.reduceLeDiff, Nat.sub_zero]); exact hk _ h3
      | forkFull h4 _ => rw [h1] at h4; rcases h4 with h4 | h4 <;> simp_all
      | fork h4 _ _ _ _ => rw [h1] at h4; rcases h4 with h4 | h4 <;> simp_all
      | waitNone h4 => exact absurd rfl h4
      | waitArg h4 => exact absurd rfl h4
      | waitChild h4 => exact absurd rfl h4
      | waitWait h4 => exact absurd rfl h4
      | wait h4 => exact absurd rfl h4
    · cases hx with
      | forkNone h4 h5 => rw [h4] at h1; rcases h1 with h1 | h1 <;> simp_all
      | forkFull _ _ => (try simp (maxSteps := 1000000) (dsimp := false) (disch := (first | omega | (simp only [okR]; done) | (simp only [sizeR] <;> omega) | fail)) only [↓preR, postR, ↓w_join, Nat.reduceEqDiff, Nat.reduceAdd, Nat.reduceSub, Nat.reduceMul, Int.reduceNeg, Nat.reduceLT, Int.reduceToNat, Nat.reduceLeDiff, Nat.sub_zero]); exact hk _ h3
      | fork _ h4 h5 h6 _ => exact absurd h6 (h2 _ h4 h5)
      | waitNone h4 => exact absurd rfl h4
      | waitArg h4 => exact absurd rfl h4
      | waitChild h4 => exact absurd rfl h4
      | waitWait h4 => exact absurd rfl h4
      | wait h4 => exact absurd rfl h4
    · cases hx with
      | forkNone h7 h8 => rw [h7] at h1; rcases h1 with h1 | h1 <;> simp_all
      | forkFull _ h7 => exact absurd h4 (h7 _ h2 h3)
      | fork _ h7 h8 h9 h10 =>
        have : a' = a := by
          rcases Int.lt_trichotomy a' a with hlt | heq | hlt
          · exact absurd h4 (h10 _ h2 hlt)
          · exact heq
          · exact absurd h9 (h5 _ h7 hlt)
        subst this
        (try simp (maxSteps := 1000000) (dsimp := false) (disch := (first | omega | (simp only [okR]; done) | (simp only [sizeR] <;> omega) | fail)) only [↓preR, postR, ↓w_join, Nat.reduceEqDiff, Nat.reduceAdd, Nat.reduceSub, Nat.reduceMul, Int.reduceNeg, Nat.reduceLT, Int.reduceToNat, Nat.reduceLeDiff, Nat.sub_zero])
        exact hk _ h6
      | waitNone h4 => exact absurd rfl h4
      | waitArg h4 => exact absurd rfl h4
      | waitChild h4 => exact absurd rfl h4
      | waitWait h4 => exact absurd rfl h4
      | wait h4 => exact absurd rfl h4
  by_cases a1 : ask = 1
  · subst a1
    (try simp (maxSteps := 1000000) (dsimp := false) (disch := (first | omega | (simp only [okR]; done) | (simp only [sizeR] <;> omega) | fail)) only [↓preR, postR, ↓w_join, Nat.reduceEqDiff, Nat.reduceAdd, Nat.reduceSub, Nat.reduceMul, Int.reduceNeg, Nat.reduceLT, Int.reduceToNat, Nat.reduceLeDiff, Nat.sub_zero, F15])
    refine rturn_c hi.rg h0 hN fun σ1 h1 => ?_
    cases hx with
    | blockNone h2 =>
      have e : f.turn p 2 = f := by unfold PV.turn; rw [h2]; rfl
      rw [e] at h1
      rw [h2]
      (try simp (maxSteps := 1000000) (dsimp := false) (disch := (first | omega | (simp only [okR]; done) | (simp only [sizeR] <;> omega) | fail)) only [↓preR, postR, ↓w_join, Nat.reduceEqDiff, Nat.reduceAdd, Nat.reduceSub, Nat.reduceMul, Int.reduceNeg, Nat.reduceLT, Int.reduceToNat, Nat.reduceLeDiff, Nat.sub_zero])
      exact hk _ h1
    | block h2 => rw [h2]; (try simp (maxSteps := 1000000) (dsimp := false) (disch := (first | omega | (simp only [okR]; done) | (simp only [sizeR] <;> omega) | fail)) only [↓preR, postR, ↓w_join, Nat.reduceEqDiff, Nat.reduceAdd, Nat.reduceSub, Nat.reduceMul, Int.reduceNeg, Nat.reduceLT, Int.reduceToNat, Nat.reduceLeDiff, Nat.sub_zero]); exact hk _ h1
    | waitNone _ h4 => exact absurd rfl h4
    | waitArg _ h4 => exact absurd rfl h4
    | waitChild _ h4 => exact absurd rfl h4
    | waitWait _ h4 => exact absurd rfl h4
    | wait _ h4 => exact absurd rfl h4
  by_cases a2 : ask = 2
  · subst a2
    (try simp (maxSteps := 1000000) (dsimp := false) (disch := (first | omega | (simp only [okR]; done) | (simp only [sizeR] <;> omega) | fail)) only [↓preR, postR, ↓w_join, Nat.reduceEqDiff, Nat.reduceAdd, Nat.reduceSub, Nat.reduceMul, Int.reduceNeg, Nat.reduceLT, Int.reduceToNat, Nat.reduceLeDiff, Nat.sub_zero, F15])
    refine rturn_c hi.rg h0 hN fun σ1 h1 => ?_
    cases hx with
    | wakeNone h2 =>
      have e : f.turn p 1 = f := by unfold PV.turn; rw [h2]; rfl
      rw [e] at h1
      rw [h2]
      (try simp (maxSteps := 1000000) (dsimp := false) (disch := (first | omega | (simp only [okR]; done) | (simp only [sizeR] <;> omega) | fail)) only [↓preR, postR, ↓w_join, Nat.reduceEqDiff, Nat.reduceAdd, Nat.reduceSub, Nat.reduceMul, Int.reduceNeg, Nat.reduceLT, Int.reduceToNat, Nat.reduceLeDiff, Nat.sub_zero])
      exact hk _ h1
    | wake h2 => rw [h2]; (try simp (maxSteps := 1000000) (dsimp := false) (disch := (first | omega | (simp only [okR]; done) | (simp only [sizeR] <;> omega) | fail)) only [↓preR, postR, ↓w_join, Nat.reduceEqDiff, Nat.reduceAdd, Nat.reduceSub, Nat.reduceMul, Int.reduceNeg, Nat.reduceLT, Int.reduceToNat, Nat.reduceLeDiff, Nat.sub_zero]); exact hk _ h1
    | waitNone _ _ h4 => exact absurd rfl h4
    | waitArg _ _ h4 => exact absurd rfl h4
    | waitChild _ _ h4 => exact absurd rfl h4
    | waitWait _ _ h4 => exact absurd rfl h4
    | wait _ _ h4 => exact absurd rfl h4
  by_cases a3 : ask = 3
  · subst a3
    (try simp (maxSteps := 1000000) (dsimp := false) (disch := (first | omega | (simp only [okR]; done) | (simp only [sizeR] <;> omega) | fail)) only [↓preR, postR, ↓w_join, Nat.reduceEqDiff, Nat.reduceAdd, Nat.reduceSub, Nat.reduceMul, Int.reduceNeg, Nat.reduceLT, Int.reduceToNat, Nat.reduceLeDiff, Nat.sub_zero, F15])
    cases hx with
    | exitNone h2 =>
      refine rexit_c (w := false) hi h0 hN hn (fun hl => by rw [h2] at hl; cases hl) (fun σ1 h3 h4 => ?_) (fun σ1 h3 h4 => by rw [h2] at h3; cases h3)
      (try simp (maxSteps := 1000000) (dsimp := false) (disch := (first | omega | (simp only [okR]; done) | (simp only [sizeR] <;> omega) | fail)) only [↓preR, postR, ↓w_join, Nat.reduceEqDiff, Nat.reduceAdd, Nat.reduceSub, Nat.reduceMul, Int.reduceNeg, Nat.reduceLT, Int.reduceToNat, Nat.reduceLeDiff, Nat.sub_zero])
      exact hk _ h4
    | exit h2 h3 =>
      refine rexit_c hi h0 hN hn (fun hl => h3) (fun σ1 h4 h5 => by rw [h2] at h4; cases h4) (fun σ1 h4 h5 => ?_)
      (try simp (maxSteps := 1000000) (dsimp := false) (disch := (first | omega | (simp only [okR]; done) | (simp only [sizeR] <;> omega) | fail)) only [↓preR, postR, ↓w_join, Nat.reduceEqDiff, Nat.reduceAdd, Nat.reduceSub, Nat.reduceMul, Int.reduceNeg, Nat.reduceLT, Int.reduceToNat, Nat.reduceLeDiff, Nat.sub_zero])
      exact hk _ h5
    | waitNone _ _ _ h4 => exact absurd rfl h4
    | waitArg _ _ _ h4 => exact absurd rfl h4
    | waitChild _ _ _ h4 => exact absurd rfl h4
    | waitWait _ _ _ h4 => exact absurd rfl h4
    | wait _ _ _ h4 => exact absurd rfl h4
  (try simp (maxSteps := 1000000) (dsimp := false) (disch := (first | omega | (simp only [okR]; done) | (simp only [sizeR] <;> omega) | fail)) only [↓preR, postR, ↓w_join, Nat.reduceEqDiff, Nat.reduceAdd, Nat.reduceSub, Nat.reduceMul, Int.reduceNeg, Nat.reduceLT, Int.reduceToNat, Nat.reduceLeDiff, Nat.sub_zero, F15])
  refine rwait_c hi.rg h0 hN (fun σ1 h1 h2 => ?_) (fun σ1 h1 h2 h3 => ?_) (fun σ1 h1 h2 h3 h4 => ?_) (fun σ1 h1 h2 h3 h4 h5 => ?_) (fun i c σ1 h1 h2 h3 h4 h5 h6 h7 => ?_)
  · cases hx with
    | waitNone => (try simp (maxSteps := 1000000) (dsimp := false) (disch := (first | omega | (simp only [okR]; done) | (simp only [sizeR] <;> omega) | fail)) only [↓preR, postR, ↓w_join, Nat.reduceEqDiff, Nat.reduceAdd, Nat.reduceSub, Nat.reduceMul, Int.reduceNeg, Nat.reduceLT, Int.reduceToNat, Nat.reduceLeDiff, Nat.sub_zero]); exact hk _ h2
    | waitArg _ _ _ _ h7 => rw [h1] at h7; cases h7
    | waitChild _ _ _ _ h7 => rw [h1] at h7; cases h7
    | waitWait _ _ _ _ h7 => rw [h1] at h7; cases h7
    | wait _ _ _ _ h7 => rw [h1] at h7; cases h7
    | _ => first | exact absurd rfl a0 | exact absurd rfl a1 | exact absurd rfl a2 | exact absurd rfl a3
  · cases hx with
    | waitNone _ _ _ _ h7 => rw [h1] at h7; cases h7
    | waitArg => (try simp (maxSteps := 1000000) (dsimp := false) (disch := (first | omega | (simp only [okR]; done) | (simp only [sizeR] <;> omega) | fail)) only [↓preR, postR, ↓w_join, Nat.reduceEqDiff, Nat.reduceAdd, Nat.reduceSub, Nat.reduceMul, Int.reduceNeg, Nat.reduceLT, Int.reduceToNat, Nat.reduceLeDiff, Nat.sub_zero]); exact hk _ h3
    | waitChild _ _ _ _ _ h7 => omega
    | waitWait _ _ _ _ _ h7 => omega
    | wait _ _ _ _ _ h7 => omega
    | _ => first | exact absurd rfl a0 | exact absurd rfl a1 | exact absurd rfl a2 | exact absurd rfl a3
  · cases hx with
    | waitNone _ _ _ _ h7 => rw [h1] at h7; cases h7
    | waitArg _ _ _ _ _ h7 => omega
    | waitChild => (try simp (maxSteps := 1000000) (dsimp := false) (disch := (first | omega | (simp only [okR]; done) | (simp only [sizeR] <;> omega) | fail)) only [↓preR, postR, ↓w_join, Nat.reduceEqDiff, Nat.reduceAdd, Nat.reduceSub, Nat.reduceMul, Int.reduceNeg, Nat.reduceLT, Int.reduceToNat, Nat.reduceLeDiff, Nat.sub_zero]); exact hk _ h4
    | waitWait _ _ _ _ _ _ h7 => obtain ⟨i, c, h8, h9⟩ := h7; exact absurd h9 (h3 _ _ h8)
    | wait _ _ _ _ _ _ h7 h8 => exact absurd h8 (h3 _ _ h7)
    | _ => first | exact absurd rfl a0 | exact absurd rfl a1 | exact absurd rfl a2 | exact absurd rfl a3
  · cases hx with
    | waitNone _ _ _ _ h7 => rw [h1] at h7; cases h7
    | waitArg _ _ _ _ _ h7 => omega
    | waitChild _ _ _ _ _ _ h7 => obtain ⟨i, c, h8, h9⟩ := h3; exact absurd h9 (h7 _ _ h8)
    | waitWait => (try simp (maxSteps := 1000000) (dsimp := false) (disch := (first | omega | (simp only [okR]; done) | (simp only [sizeR] <;> omega) | fail)) only [↓preR, postR, ↓w_join, Nat.reduceEqDiff, Nat.reduceAdd, Nat.reduceSub, Nat.reduceMul, Int.reduceNeg, Nat.reduceLT, Int.reduceToNat, Nat.reduceLeDiff, Nat.sub_zero]); exact hk _ h5
    | wait _ _ _ _ _ _ h7 h8 h9 => exact absurd h9 (h4 _ _ h7 h8)
    | _ => first | exact absurd rfl a0 | exact absurd rfl a1 | exact absurd rfl a2 | exact absurd rfl a3
  · cases hx with
    | waitNone _ _ _ _ h8 => rw [h1] at h8; cases h8
    | waitArg _ _ _ _ _ h8 => omega
    | waitChild _ _ _ _ _ _ h8 => exact absurd h4 (h8 _ _ h3)
    | waitWait _ _ _ _ _ _ _ h8 => exact absurd h5 (h8 _ _ h3 h4)
    | wait _ _ _ _ _ _ h8 h9 h10 h11 =>
      have := h6 _ _ h8 h9 h10
      have := h11 _ _ h3 h4 h5
      obtain rfl : a = i := by omega
      rw [h3] at h8
      cases h8
      (try simp (maxSteps := 1000000) (dsimp := false) (disch := (first | omega | (simp only [okR]; done) | (simp only [sizeR] <;> omega) | fail)) only [↓preR, postR, ↓w_join, Nat.reduceEqDiff, Nat.reduceAdd, Nat.reduceSub, Nat.reduceMul, Int.reduceNeg, Nat.reduceLT, Int.reduceToNat, Nat.reduceLeDiff, Nat.sub_zero])
      exact hk _ h7
    | _ => first | exact absurd rfl a0 | exact absurd rfl a1 | exact absurd rfl a2 | exact absurd rfl a3
end
end Go.Proofs.Ytkponloccimdlaa
