/- Variables: arguments, status, any call. Conditions: as each theorem says. -/
import Derived.Test.YtpnefcapiiemdaaGreatDoorVaD
namespace Go.Proofs.YtpnefcapiiemdaaGreatDoor
open E Go.Lib
set_option linter.unusedVariables false
set_option linter.unusedSimpArgs false
set_option maxHeartbeats 1000000
set_option maxRecDepth 20000
abbrev celO (k : Int) (n val : Str) (i : Int) (u : Value) : List Value := [.int .i64 k, .string (bs n), .string (bs val), .int .i64 i, u]
section
variable {σ σ' : AS} {X : Ce} {R : List Ck} {k : Value → AS → Prop} {v m : Nat} {u : Value} {zero n val : Str} {ms : List Str} {i q : Int} {S : VM} {w : Bool} {x' : VV}
theorem setargs_c (h : Hs σ X (Vm v zero S :: R)) (hu : TxS σ u ms) (hlen : ms.length ≤ 1000000) (hk : ∀ w σ', Hs σ' X (Vm v zero ⟨ms, S.st, S.l⟩ :: R) → k w σ') :
    kCall Tryz.prog 21 [pv v, u] σ k := by
  obtain ⟨av, m, h1⟩ := Vs.open h
  refine f21 ?_
  (simp (maxSteps := 1000000) (dsimp := false) (disch := (first | omega | (simp only [okR]; done) | (simp only [sizeR] <;> omega) | fail)) only [↓preR, postR, ↓w_join, Nat.reduceEqDiff, Nat.reduceAdd, Nat.reduceSub, Nat.reduceMul, Int.reduceNeg, Nat.reduceLT, Int.reduceToNat, Nat.reduceLeDiff, Nat.sub_zero, F21])
  refine clone_c h1 hu hlen fun v' σ1 h2 => ?_
  obtain ⟨a, g, o, cap, rfl, _⟩ := StrR.get h2
  (simp (maxSteps := 1000000) (dsimp := false) (disch := (first | omega | (simp only [okR]; done) | (simp only [sizeR] <;> omega) | fail)) only [↓preR, postR, ↓w_join, Nat.reduceEqDiff, Nat.reduceAdd, Nat.reduceSub, Nat.reduceMul, Int.reduceNeg, Nat.reduceLT, Int.reduceToNat, Nat.reduceLeDiff, Nat.sub_zero, h2.obj1])
  have h3 : Hs _ X (StrR av S.ar :: StrR (.slice a ms.length cap) ms :: Cel v [.string (bs zero), .slice a ms.length cap, .map (some m), .int .i64 S.st] :: Mp (κ := Str) m none (encL S.l) :: R) := h2.put1.front 3 rfl
  exact hk _ _ (Vs.close (ar := ms) h3.drop.un2)
theorem setst_c (h : Hs σ X (Vm v zero S :: R)) (hk : ∀ w σ', Hs σ' X (Vm v zero ⟨S.ar, i, S.l⟩ :: R) → k w σ') :
    kCall Tryz.prog 22 [pv v, .int .i64 i] σ k := by
  obtain ⟨av, m, h1⟩ := Vs.open h
  refine f22 ?_
  (simp (maxSteps := 1000000) (dsimp := false) (disch := (first | omega | (simp only [okR]; done) | (simp only [sizeR] <;> omega) | fail)) only [↓preR, postR, ↓w_join, Nat.reduceEqDiff, Nat.reduceAdd, Nat.reduceSub, Nat.reduceMul, Int.reduceNeg, Nat.reduceLT, Int.reduceToNat, Nat.reduceLeDiff, Nat.sub_zero, F22, h1.obj])
  exact hk _ _ (Vs.close h1.put)
theorem args_c (h : Hs σ X (Vm v zero S :: R)) (hlen : S.ar.length ≤ 1000000) (hk : ∀ v' σ', Hs σ' X (StrR v' S.ar :: Vm v zero S :: R) → k v' σ') : kCall Tryz.prog 16 [pv v] σ k := by
  obtain ⟨av, m, h1⟩ := Vs.open h
  refine f16 ?_
  have h2 : Hs σ X (StrR av S.ar :: Cel v [.string (bs zero), av, .map (some m), .int .i64 S.st] :: Mp (κ := Str) m none (encL S.l) :: R) := h1.front 2 rfl
  have ht := TxS.row h2
  obtain ⟨a, g, o, cap, rfl, _⟩ := StrR.get h2
  (simp (maxSteps := 1000000) (dsimp := false) (disch := (first | omega | (simp only [okR]; done) | (simp only [sizeR] <;> omega) | fail)) only [↓preR, postR, ↓w_join, Nat.reduceEqDiff, Nat.reduceAdd, Nat.reduceSub, Nat.reduceMul, Int.reduceNeg, Nat.reduceLT, Int.reduceToNat, Nat.reduceLeDiff, Nat.sub_zero, F16, h1.obj])
  refine clone_c h2 ht hlen fun v' σ1 h3 => ?_
  (try simp (maxSteps := 1000000) (dsimp := false) (disch := (first | omega | (simp only [okR]; done) | (simp only [sizeR] <;> omega) | fail)) only [↓preR, postR, ↓w_join, Nat.reduceEqDiff, Nat.reduceAdd, Nat.reduceSub, Nat.reduceMul, Int.reduceNeg, Nat.reduceLT, Int.reduceToNat, Nat.reduceLeDiff, Nat.sub_zero])
  have h4 : Hs σ1 X (StrR (.slice a S.ar.length cap) S.ar :: Cel v [.string (bs zero), .slice a S.ar.length cap, .map (some m), .int .i64 S.st] :: Mp (κ := Str) m none (encL S.l) :: StrR v' S.ar :: R) := h3.un3
  exact hk _ _ (Hs.swap (Vs.close h4.un2))
theorem kind_c (h : Hs σ X R) (hi : inI64 q) (hk : ∀ σ', Hs σ' X R → k (.int .i64 (kd q)) σ') : kCall Tryz.prog 18 [.agg (celO q n val i u).toArray] σ k := by
  refine f18 ?_
  unfold inI64 at hi
  have h1 : -8 < Int.tmod q 8 ∧ Int.tmod q 8 < 8 := ⟨Int.lt_tmod_of_pos q (by decide), Int.tmod_lt_of_pos q (by decide)⟩
  (try simp (maxSteps := 1000000) (dsimp := false) (disch := (first | omega | (simp only [okR]; done) | (simp only [sizeR] <;> omega) | fail)) only [↓preR, postR, ↓w_join, Nat.reduceEqDiff, Nat.reduceAdd, Nat.reduceSub, Nat.reduceMul, Int.reduceNeg, Nat.reduceLT, Int.reduceToNat, Nat.reduceLeDiff, Nat.sub_zero, F18])
  exact hk _ (h.junk _)
theorem kd_rng (q : Int) : 0 ≤ kd q ∧ kd q < 8 := by unfold kd; omega
/-- Any call. -/
theorem do_c (h : Hs σ X (Vm v zero S :: R)) (hq : inI64 q) (hn : n.length ≤ maxLen) (hi : inI64 i) (hr : RepL X u ms) (hlen : ms.length ≤ 1000000) (hk : ∀ σ', Hs σ' X (Vm v zero (doV (q, n, val, i, ms) S).2 :: R) → k (.int .i64 (doV (q, n, val, i, ms) S).1) σ') :
    kCall Tryz.prog 7 [pv v, .agg (celO q n val i u).toArray] σ k := by
  obtain ⟨a, cap, rfl, hr'⟩ := hr
  have hr : RepL X (.slice a ms.length cap) ms := ⟨a, cap, rfl, hr'⟩
  refine f7 ?_
  have h1 : Hs _ X (Vm v zero S :: Cel σ.n (celO q n val i (.slice a ms.length cap)) :: R) := (h.new (cs := celO q n val i (.slice a ms.length cap))).swap
  (try simp (maxSteps := 1000000) (dsimp := false) (disch := (first | omega | (simp only [okR]; done) | (simp only [sizeR] <;> omega) | fail)) only [↓preR, postR, ↓w_stop, Nat.reduceEqDiff, Nat.reduceAdd, Nat.reduceSub, Nat.reduceMul, Int.reduceNeg, Nat.reduceLT, Int.reduceToNat, Nat.reduceLeDiff, Nat.sub_zero, F7])
  refine join_now ?_
  (try simp (maxSteps := 1000000) (dsimp := false) (disch := (first | omega | (simp only [okR]; done) | (simp only [sizeR] <;> omega) | fail)) only [↓preR, postR, ↓w_stop, Nat.reduceEqDiff, Nat.reduceAdd, Nat.reduceSub, Nat.reduceMul, Int.reduceNeg, Nat.reduceLT, Int.reduceToNat, Nat.reduceLeDiff, Nat.sub_zero])
  refine kind_c h1 hq fun σ1 h2 => ?_
  have hu2 : TxS σ1 (.slice a ms.length cap) ms := TxS.rep h2 hr
  have kr := kd_rng q
  by_cases c2 : kd q = 2
  · (try simp (maxSteps := 1000000) (dsimp := false) (disch := (first | omega | (simp only [okR]; done) | (simp only [sizeR] <;> omega) | fail)) only [↓preR, postR, ↓w_join, Nat.reduceEqDiff, Nat.reduceAdd, Nat.reduceSub, Nat.reduceMul, Int.reduceNeg, Nat.reduceLT, Int.reduceToNat, Nat.reduceLeDiff, Nat.sub_zero, c2, h2.obj1])
    refine unset_c h2 hn fun σ2 h3 => ?_
    have e : doV (q, n, val, i, ms) S = unsetV S n := by simp [doV, c2]
    rw [e] at hk
    (try simp (maxSteps := 1000000) (dsimp := false) (disch := (first | omega | (simp only [okR]; done) | (simp only [sizeR] <;> omega) | fail)) only [↓preR, postR, ↓w_join, Nat.reduceEqDiff, Nat.reduceAdd, Nat.reduceSub, Nat.reduceMul, Int.reduceNeg, Nat.reduceLT, Int.reduceToNat, Nat.reduceLeDiff, Nat.sub_zero])
    exact hk _ (h3.swap.drop)
  by_cases c3 : kd q = 3
  · (try simp (maxSteps := 1000000) (dsimp := false) (disch := (first | omega | (simp only [okR]; done) | (simp only [sizeR] <;> omega) | fail)) only [↓preR, postR, ↓w_join, Nat.reduceEqDiff, Nat.reduceAdd, Nat.reduceSub, Nat.reduceMul, Int.reduceNeg, Nat.reduceLT, Int.reduceToNat, Nat.reduceLeDiff, Nat.sub_zero, c3, h2.obj1])
    refine export_c h2 hn fun σ2 h3 => ?_
    have e : doV (q, n, val, i, ms) S = exportV S n := by simp [doV, c3]
    rw [e] at hk
    (try simp (maxSteps := 1000000) (dsimp := false) (disch := (first | omega | (simp only [okR]; done) | (simp only [sizeR] <;> omega) | fail)) only [↓preR, postR, ↓w_join, Nat.reduceEqDiff, Nat.reduceAdd, Nat.reduceSub, Nat.reduceMul, Int.reduceNeg, Nat.reduceLT, Int.reduceToNat, Nat.reduceLeDiff, Nat.sub_zero])
    exact hk _ (h3.swap.drop)
  by_cases c4 : kd q = 4
  · (try simp (maxSteps := 1000000) (dsimp := false) (disch := (first | omega | (simp only [okR]; done) | (simp only [sizeR] <;> omega) | fail)) only [↓preR, postR, ↓w_join, Nat.reduceEqDiff, Nat.reduceAdd, Nat.reduceSub, Nat.reduceMul, Int.reduceNeg, Nat.reduceLT, Int.reduceToNat, Nat.reduceLeDiff, Nat.sub_zero, c4, h2.obj1])
    refine ro_c h2 hn fun σ2 h3 => ?_
    have e : doV (q, n, val, i, ms) S = roV S n := by simp [doV, c4]
    rw [e] at hk
    (try simp (maxSteps := 1000000) (dsimp := false) (disch := (first | omega | (simp only [okR]; done) | (simp only [sizeR] <;> omega) | fail)) only [↓preR, postR, ↓w_join, Nat.reduceEqDiff, Nat.reduceAdd, Nat.reduceSub, Nat.reduceMul, Int.reduceNeg, Nat.reduceLT, Int.reduceToNat, Nat.reduceLeDiff, Nat.sub_zero])
    exact hk _ (h3.swap.drop)
  by_cases c5 : kd q = 5
  · (try simp (maxSteps := 1000000) (dsimp := false) (disch := (first | omega | (simp only [okR]; done) | (simp only [sizeR] <;> omega) | fail)) only [↓preR, postR, ↓w_join, Nat.reduceEqDiff, Nat.reduceAdd, Nat.reduceSub, Nat.reduceMul, Int.reduceNeg, Nat.reduceLT, Int.reduceToNat, Nat.reduceLeDiff, Nat.sub_zero, c5, h2.obj1])
    refine setargs_c h2 hu2 hlen fun w σ2 h3 => ?_
    have e : doV (q, n, val, i, ms) S = (0, ⟨ms, S.st, S.l⟩) := by simp [doV, c5]
    rw [e] at hk
    (try simp (maxSteps := 1000000) (dsimp := false) (disch := (first | omega | (simp only [okR]; done) | (simp only [sizeR] <;> omega) | fail)) only [↓preR, postR, ↓w_join, Nat.reduceEqDiff, Nat.reduceAdd, Nat.reduceSub, Nat.reduceMul, Int.reduceNeg, Nat.reduceLT, Int.reduceToNat, Nat.reduceLeDiff, Nat.sub_zero])
    exact hk _ (h3.swap.drop)
  by_cases c6 : kd q = 6
  · (try simp (maxSteps := 1000000) (dsimp := false) (disch := (first | omega | (simp only [okR]; done) | (simp only [sizeR] <;> omega) | fail)) only [↓preR, postR, ↓w_join, Nat.reduceEqDiff, Nat.reduceAdd, Nat.reduceSub, Nat.reduceMul, Int.reduceNeg, Nat.reduceLT, Int.reduceToNat, Nat.reduceLeDiff, Nat.sub_zero, c6, h2.obj1])
    refine shift_c h2 hi fun σ2 h3 => ?_
    have e : doV (q, n, val, i, ms) S = shiftV S i := by simp [doV, c6]
    rw [e] at hk
    (try simp (maxSteps := 1000000) (dsimp := false) (disch := (first | omega | (simp only [okR]; done) | (simp only [sizeR] <;> omega) | fail)) only [↓preR, postR, ↓w_join, Nat.reduceEqDiff, Nat.reduceAdd, Nat.reduceSub, Nat.reduceMul, Int.reduceNeg, Nat.reduceLT, Int.reduceToNat, Nat.reduceLeDiff, Nat.sub_zero])
    exact hk _ (h3.swap.drop)
  by_cases c7 : kd q = 7
  · (try simp (maxSteps := 1000000) (dsimp := false) (disch := (first | omega | (simp only [okR]; done) | (simp only [sizeR] <;> omega) | fail)) only [↓preR, postR, ↓w_join, Nat.reduceEqDiff, Nat.reduceAdd, Nat.reduceSub, Nat.reduceMul, Int.reduceNeg, Nat.reduceLT, Int.reduceToNat, Nat.reduceLeDiff, Nat.sub_zero, c7, h2.obj1])
    refine setst_c h2 fun w σ2 h3 => ?_
    have e : doV (q, n, val, i, ms) S = (0, ⟨S.ar, i, S.l⟩) := by simp [doV, c7]
    rw [e] at hk
    (try simp (maxSteps := 1000000) (dsimp := false) (disch := (first | omega | (simp only [okR]; done) | (simp only [sizeR] <;> omega) | fail)) only [↓preR, postR, ↓w_join, Nat.reduceEqDiff, Nat.reduceAdd, Nat.reduceSub, Nat.reduceMul, Int.reduceNeg, Nat.reduceLT, Int.reduceToNat, Nat.reduceLeDiff, Nat.sub_zero])
    exact hk _ (h3.swap.drop)
  · (try simp (maxSteps := 1000000) (dsimp := false) (disch := (first | omega | (simp only [okR]; done) | (simp only [sizeR] <;> omega) | fail)) only [↓preR, postR, ↓w_join, Nat.reduceEqDiff, Nat.reduceAdd, Nat.reduceSub, Nat.reduceMul, Int.reduceNeg, Nat.reduceLT, Int.reduceToNat, Nat.reduceLeDiff, Nat.sub_zero, c2, c3, c4, c5, c6, c7, h2.obj1])
    refine set_c h2 hn fun σ2 h3 => ?_
    have e : doV (q, n, val, i, ms) S = setV S n val := by simp [doV, c2, c3, c4, c5, c6, c7]
    rw [e] at hk
    (try simp (maxSteps := 1000000) (dsimp := false) (disch := (first | omega | (simp only [okR]; done) | (simp only [sizeR] <;> omega) | fail)) only [↓preR, postR, ↓w_join, Nat.reduceEqDiff, Nat.reduceAdd, Nat.reduceSub, Nat.reduceMul, Int.reduceNeg, Nat.reduceLT, Int.reduceToNat, Nat.reduceLeDiff, Nat.sub_zero])
    exact hk _ (h3.swap.drop)
end
end Go.Proofs.YtpnefcapiiemdaaGreatDoor
