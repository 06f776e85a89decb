/- Nodes: the reference's calls. Conditions: as each theorem says. -/
import Derived.Test.YtmkiaoddkodngaaInR
namespace Go.Proofs.Ytmkiaoddkodngaa
open E Go.Lib
set_option linter.unusedVariables false
set_option linter.unusedSimpArgs false
set_option maxHeartbeats 1000000
set_option maxRecDepth 20000

section
variable {σ σ' : AS} {X : Ce} {R : List Ck} {k : Value → AS → Prop} {t N m : Nat} {V V' : TV} {ask i at_ n : Int} {j : Nat} {data s : List UInt8} {d d' : RN} {x : RfX}
theorem rtie_c (h : Hs σ X (Rf t N V :: R)) (hm : ∀ d, atV V i = some d → -1000000 ≤ d.names ∧ d.names ≤ 1000000) (hk : ∀ σ', Hs σ' X (Rf t N (doM (1, i, at_, n, data) V 0).2 :: R) → k (.int .i64 (doM (1, i, at_, n, data) V 0).1.2.2) σ') :
    kCall Try.prog 42 [pp t, .int .i64 i] σ k := by
  obtain ⟨x, hx, h1⟩ := Rf.open h
  simp only [doM] at hk
  have hcap := hx.cap
  have hcl := hx.cl
  have hfew := hx.few
  unfold maxLen at hfew
  refine f42 ?_
  (try simp (maxSteps := 1000000) (dsimp := false) (disch := (first | omega | (simp only [okR]; done) | (simp only [sizeR] <;> omega) | fail)) only [↓preR, postR, ↓w_join, Nat.reduceEqDiff, Nat.reduceAdd, Nat.reduceSub, Nat.reduceMul, Int.reduceNeg, Nat.reduceLT, Int.reduceToNat, Nat.reduceLeDiff, Nat.sub_zero, F42])
  refine ris_c h1 hx ?_
  cases hv : atV V i with
  | none =>
    rw [hv] at hk
    (try simp (maxSteps := 1000000) (dsimp := false) (disch := (first | omega | (simp only [okR]; done) | (simp only [sizeR] <;> omega) | fail)) only [↓preR, postR, ↓w_join, Nat.reduceEqDiff, Nat.reduceAdd, Nat.reduceSub, Nat.reduceMul, Int.reduceNeg, Nat.reduceLT, Int.reduceToNat, Nat.reduceLeDiff, Nat.sub_zero, Option.isSome_none])
    exact hk _ h
  | some v =>
    rw [hv] at hk
    have hb := hm v hv
    obtain ⟨d, ho, rfl, hok, i1, i2, c0, c1, c2, c3, c4⟩ := R_node hx hv
    have hb : -1000000 ≤ d.names ∧ d.names ≤ 1000000 := hb
    (simp (maxSteps := 1000000) (dsimp := false) (disch := (first | omega | (simp only [okR]; done) | (simp only [sizeR] <;> omega) | fail)) only [↓preR, postR, ↓w_join, Nat.reduceEqDiff, Nat.reduceAdd, Nat.reduceSub, Nat.reduceMul, Int.reduceNeg, Nat.reduceLT, Int.reduceToNat, Nat.reduceLeDiff, Nat.sub_zero, Option.isSome_some, h1.obj, h1.obj1, c1, flat_lenR])
    have h2 := RL_cell (d' := ⟨d.kind, d.names + 1, d.users, d.data, d.g, d.c, d.has, d.sp⟩) (v := .int .i64 (d.names + 1)) h1 ho i1 (jj := 1) (by decide) rfl rfl rfl rfl
    exact hk _ (Rf.close h2 (hx.set _ (some _) (fun d' hd' => by injection hd' with hd'; subst hd'; exact ⟨hok.has, hok.cap, hok.few, hok.kind, hok.data⟩)))
theorem rhold_c (h : Hs σ X (Rf t N V :: R)) (hm : ∀ d, atV V i = some d → -1000000 ≤ d.users ∧ d.users ≤ 1000000) (hk : ∀ σ', Hs σ' X (Rf t N (doM (3, i, at_, n, data) V 0).2 :: R) → k (.int .i64 (doM (3, i, at_, n, data) V 0).1.2.2) σ') :
    kCall Try.prog 44 [pp t, .int .i64 i] σ k := by
  obtain ⟨x, hx, h1⟩ := Rf.open h
  simp only [doM] at hk
  have hcap := hx.cap
  have hcl := hx.cl
  have hfew := hx.few
  unfold maxLen at hfew
  refine f44 ?_
  (try simp (maxSteps := 1000000) (dsimp := false) (disch := (first | omega | (simp only [okR]; done) | (simp only [sizeR] <;> omega) | fail)) only [↓preR, postR, ↓w_join, Nat.reduceEqDiff, Nat.reduceAdd, Nat.reduceSub, Nat.reduceMul, Int.reduceNeg, Nat.reduceLT, Int.reduceToNat, Nat.reduceLeDiff, Nat.sub_zero, F44])
  refine ris_c h1 hx ?_
  cases hv : atV V i with
  | none =>
    rw [hv] at hk
    (try simp (maxSteps := 1000000) (dsimp := false) (disch := (first | omega | (simp only [okR]; done) | (simp only [sizeR] <;> omega) | fail)) only [↓preR, postR, ↓w_join, Nat.reduceEqDiff, Nat.reduceAdd, Nat.reduceSub, Nat.reduceMul, Int.reduceNeg, Nat.reduceLT, Int.reduceToNat, Nat.reduceLeDiff, Nat.sub_zero, Option.isSome_none])
    exact hk _ h
  | some v =>
    rw [hv] at hk
    have hb := hm v hv
    obtain ⟨d, ho, rfl, hok, i1, i2, c0, c1, c2, c3, c4⟩ := R_node hx hv
    have hb : -1000000 ≤ d.users ∧ d.users ≤ 1000000 := hb
    (simp (maxSteps := 1000000) (dsimp := false) (disch := (first | omega | (simp only [okR]; done) | (simp only [sizeR] <;> omega) | fail)) only [↓preR, postR, ↓w_join, Nat.reduceEqDiff, Nat.reduceAdd, Nat.reduceSub, Nat.reduceMul, Int.reduceNeg, Nat.reduceLT, Int.reduceToNat, Nat.reduceLeDiff, Nat.sub_zero, Option.isSome_some, h1.obj, h1.obj1, c2, flat_lenR])
    have h2 := RL_cell (d' := ⟨d.kind, d.names, d.users + 1, d.data, d.g, d.c, d.has, d.sp⟩) (v := .int .i64 (d.users + 1)) h1 ho i1 (jj := 2) (by decide) rfl rfl rfl rfl
    exact hk _ (Rf.close h2 (hx.set _ (some _) (fun d' hd' => by injection hd' with hd'; subst hd'; exact ⟨hok.has, hok.cap, hok.few, hok.kind, hok.data⟩)))
theorem runtie_c (h : Hs σ X (Rf t N V :: R)) (hm : ∀ d, atV V i = some d → -1000000 ≤ d.names ∧ d.names ≤ 1000000) (hk : ∀ σ', Hs σ' X (Rf t N (doM (2, i, at_, n, data) V 0).2 :: R) → k (.int .i64 (doM (2, i, at_, n, data) V 0).1.2.2) σ') :
    kCall Try.prog 43 [pp t, .int .i64 i] σ k := by
  obtain ⟨x, hx, h1⟩ := Rf.open h
  simp only [doM] at hk
  have hcap := hx.cap
  have hcl := hx.cl
  have hfew := hx.few
  unfold maxLen at hfew
  refine f43 ?_
  (try simp (maxSteps := 1000000) (dsimp := false) (disch := (first | omega | (simp only [okR]; done) | (simp only [sizeR] <;> omega) | fail)) only [↓preR, postR, ↓w_join, Nat.reduceEqDiff, Nat.reduceAdd, Nat.reduceSub, Nat.reduceMul, Int.reduceNeg, Nat.reduceLT, Int.reduceToNat, Nat.reduceLeDiff, Nat.sub_zero, F43])
  refine ris_c h1 hx ?_
  cases hv : atV V i with
  | none =>
    rw [hv] at hk
    (try simp (maxSteps := 1000000) (dsimp := false) (disch := (first | omega | (simp only [okR]; done) | (simp only [sizeR] <;> omega) | fail)) only [↓preR, postR, ↓w_join, Nat.reduceEqDiff, Nat.reduceAdd, Nat.reduceSub, Nat.reduceMul, Int.reduceNeg, Nat.reduceLT, Int.reduceToNat, Nat.reduceLeDiff, Nat.sub_zero, Option.isSome_none])
    exact hk _ h
  | some v =>
    rw [hv] at hk
    have hb := hm v hv
    obtain ⟨d, ho, rfl, hok, i1, i2, c0, c1, c2, c3, c4⟩ := R_node hx hv
    have hb : -1000000 ≤ d.names ∧ d.names ≤ 1000000 := hb
    by_cases n0 : d.names = 0
    · have hk := hk σ
      simp only [rnv, n0, if_true] at hk
      rw [n0] at c1
      (simp (maxSteps := 1000000) (dsimp := false) (disch := (first | omega | (simp only [okR]; done) | (simp only [sizeR] <;> omega) | fail)) only [↓preR, postR, ↓w_join, Nat.reduceEqDiff, Nat.reduceAdd, Nat.reduceSub, Nat.reduceMul, Int.reduceNeg, Nat.reduceLT, Int.reduceToNat, Nat.reduceLeDiff, Nat.sub_zero, Option.isSome_some, h1.obj, h1.obj1, c1])
      exact hk h
    · have n0' : ¬ (rnv d).names = 0 := n0
      simp only [n0', if_false] at hk
      (simp (maxSteps := 1000000) (dsimp := false) (disch := (first | omega | (simp only [okR]; done) | (simp only [sizeR] <;> omega) | fail)) only [↓preR, postR, ↓w_join, Nat.reduceEqDiff, Nat.reduceAdd, Nat.reduceSub, Nat.reduceMul, Int.reduceNeg, Nat.reduceLT, Int.reduceToNat, Nat.reduceLeDiff, Nat.sub_zero, Option.isSome_some, h1.obj, h1.obj1, c1, flat_lenR, n0])
      have h2 := RL_cell (d' := ⟨d.kind, d.names - 1, d.users, d.data, d.g, d.c, d.has, d.sp⟩) (v := .int .i64 (d.names - 1)) h1 ho i1 (jj := 1) (by decide) rfl rfl rfl rfl
      have hx2 := hx.set (i - 1).toNat (some ⟨d.kind, d.names - 1, d.users, d.data, d.g, d.c, d.has, d.sp⟩) (fun d' hd' => by injection hd' with hd'; subst hd'; exact ⟨hok.has, hok.cap, hok.few, hok.kind, hok.data⟩)
      have hq := (List.getElem?_eq_some_iff.1 ho).1
      refine rleft_c h2 hx2 (by show (x.ns.set _ _)[_]? = _; rw [List.getElem?_set_self hq]) i1 fun σ3 x3 hx3 h3 => ?_
      (try simp (maxSteps := 1000000) (dsimp := false) (disch := (first | omega | (simp only [okR]; done) | (simp only [sizeR] <;> omega) | fail)) only [↓preR, postR, ↓w_join, Nat.reduceEqDiff, Nat.reduceAdd, Nat.reduceSub, Nat.reduceMul, Int.reduceNeg, Nat.reduceLT, Int.reduceToNat, Nat.reduceLeDiff, Nat.sub_zero])
      rw [putV_putV] at hx3
      exact hk _ (Rf.close h3 hx3)
theorem rloose_c (h : Hs σ X (Rf t N V :: R)) (hm : ∀ d, atV V i = some d → -1000000 ≤ d.users ∧ d.users ≤ 1000000) (hk : ∀ σ', Hs σ' X (Rf t N (doM (4, i, at_, n, data) V 0).2 :: R) → k (.int .i64 (doM (4, i, at_, n, data) V 0).1.2.2) σ') :
    kCall Try.prog 45 [pp t, .int .i64 i] σ k := by
  obtain ⟨x, hx, h1⟩ := Rf.open h
  simp only [doM] at hk
  have hcap := hx.cap
  have hcl := hx.cl
  have hfew := hx.few
  unfold maxLen at hfew
  refine f45 ?_
  (try simp (maxSteps := 1000000) (dsimp := false) (disch := (first | omega | (simp only [okR]; done) | (simp only [sizeR] <;> omega) | fail)) only [↓preR, postR, ↓w_join, Nat.reduceEqDiff, Nat.reduceAdd, Nat.reduceSub, Nat.reduceMul, Int.reduceNeg, Nat.reduceLT, Int.reduceToNat, Nat.reduceLeDiff, Nat.sub_zero, F45])
  refine ris_c h1 hx ?_
  cases hv : atV V i with
  | none =>
    rw [hv] at hk
    (try simp (maxSteps := 1000000) (dsimp := false) (disch := (first | omega | (simp only [okR]; done) | (simp only [sizeR] <;> omega) | fail)) only [↓preR, postR, ↓w_join, Nat.reduceEqDiff, Nat.reduceAdd, Nat.reduceSub, Nat.reduceMul, Int.reduceNeg, Nat.reduceLT, Int.reduceToNat, Nat.reduceLeDiff, Nat.sub_zero, Option.isSome_none])
    exact hk _ h
  | some v =>
    rw [hv] at hk
    have hb := hm v hv
    obtain ⟨d, ho, rfl, hok, i1, i2, c0, c1, c2, c3, c4⟩ := R_node hx hv
    have hb : -1000000 ≤ d.users ∧ d.users ≤ 1000000 := hb
    by_cases n0 : d.users = 0
    · have hk := hk σ
      simp only [rnv, n0, if_true] at hk
      rw [n0] at c2
      (simp (maxSteps := 1000000) (dsimp := false) (disch := (first | omega | (simp only [okR]; done) | (simp only [sizeR] <;> omega) | fail)) only [↓preR, postR, ↓w_join, Nat.reduceEqDiff, Nat.reduceAdd, Nat.reduceSub, Nat.reduceMul, Int.reduceNeg, Nat.reduceLT, Int.reduceToNat, Nat.reduceLeDiff, Nat.sub_zero, Option.isSome_some, h1.obj, h1.obj1, c2])
      exact hk h
    · have n0' : ¬ (rnv d).users = 0 := n0
      simp only [n0', if_false] at hk
      (simp (maxSteps := 1000000) (dsimp := false) (disch := (first | omega | (simp only [okR]; done) | (simp only [sizeR] <;> omega) | fail)) only [↓preR, postR, ↓w_join, Nat.reduceEqDiff, Nat.reduceAdd, Nat.reduceSub, Nat.reduceMul, Int.reduceNeg, Nat.reduceLT, Int.reduceToNat, Nat.reduceLeDiff, Nat.sub_zero, Option.isSome_some, h1.obj, h1.obj1, c2, flat_lenR, n0])
      have h2 := RL_cell (d' := ⟨d.kind, d.names, d.users - 1, d.data, d.g, d.c, d.has, d.sp⟩) (v := .int .i64 (d.users - 1)) h1 ho i1 (jj := 2) (by decide) rfl rfl rfl rfl
      have hx2 := hx.set (i - 1).toNat (some ⟨d.kind, d.names, d.users - 1, d.data, d.g, d.c, d.has, d.sp⟩) (fun d' hd' => by injection hd' with hd'; subst hd'; exact ⟨hok.has, hok.cap, hok.few, hok.kind, hok.data⟩)
      have hq := (List.getElem?_eq_some_iff.1 ho).1
      refine rleft_c h2 hx2 (by show (x.ns.set _ _)[_]? = _; rw [List.getElem?_set_self hq]) i1 fun σ3 x3 hx3 h3 => ?_
      (try simp (maxSteps := 1000000) (dsimp := false) (disch := (first | omega | (simp only [okR]; done) | (simp only [sizeR] <;> omega) | fail)) only [↓preR, postR, ↓w_join, Nat.reduceEqDiff, Nat.reduceAdd, Nat.reduceSub, Nat.reduceMul, Int.reduceNeg, Nat.reduceLT, Int.reduceToNat, Nat.reduceLeDiff, Nat.sub_zero])
      rw [putV_putV] at hx3
      exact hk _ (Rf.close h3 hx3)
end
end Go.Proofs.Ytmkiaoddkodngaa
