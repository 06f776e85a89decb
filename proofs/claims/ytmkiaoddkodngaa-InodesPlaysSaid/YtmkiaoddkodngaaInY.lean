/- Nodes: the reference's table made; its calls of any kind. Conditions: as each theorem says. -/
import Derived.Test.YtmkiaoddkodngaaInU
namespace Go.Proofs.Ytmkiaoddkodngaa
open E Go.Lib
set_option linter.unusedVariables false
set_option linter.unusedSimpArgs false
set_option maxHeartbeats 1000000
set_option maxRecDepth 20000

section
variable {σ σ' : AS} {X : Ce} {R : List Ck} {k : Value → AS → Prop} {t N m : Nat} {V V' : TV} {ask i at_ n : Int} {j : Nat} {data s : List UInt8} {d d' : RN} {x : RfX}
theorem no_nodesR (h : Hs σ X R) : ∀ n : Nat, Hs σ X ((List.replicate n (none : Option RN)).map RnK ++ R)
  | 0 => h
  | n + 1 => Hs.nul (no_nodesR h n)
theorem flat_zero (n : Nat) : (List.replicate (n + 1) [Value.int .i64 0, .int .i64 0, .int .i64 0, .string (bs []), .slice none 0 0]).flatten = flat rnC (none :: List.replicate n none) [] := by
  have e : (none :: List.replicate n (none : Option RN)).map rnC = List.replicate (n + 1) [Value.int .i64 0, .int .i64 0, .int .i64 0, .string (bs []), .slice none 0 0] := by
    rw [← List.replicate_succ, List.map_replicate]; rfl
  unfold flat
  rw [e, List.append_nil]
theorem rnew_c {a b : Int} (h : Hs σ X R) (hb : (a < 1 ∨ 1024 < a ∨ b < 1 ∨ 4096 < b) → k (.tuple #[.pointer none, .int .i64 1]) σ)
    (hk : ∀ t σ', 1 ≤ a → a ≤ 1024 → 1 ≤ b → b ≤ 4096 → Hs σ' X (Rf t b.toNat (List.replicate a.toNat none) :: R) → k (.tuple #[pp t, .int .i64 0]) σ') :
    kCall Try.prog 23 [.int .i64 a, .int .i64 b] σ k := by
  refine f23 ?_
  by_cases h1 : a < 1
  · (try simp (maxSteps := 1000000) (dsimp := false) (disch := (first | omega | (simp only [okR]; done) | (simp only [sizeR] <;> omega) | fail)) only [↓preR, postR, ↓w_join, Nat.reduceEqDiff, Nat.reduceAdd, Nat.reduceSub, Nat.reduceMul, Int.reduceNeg, Nat.reduceLT, Int.reduceToNat, Nat.reduceLeDiff, Nat.sub_zero, F23]); exact hb (.inl h1)
  by_cases h2 : 1024 < a
  · (try simp (maxSteps := 1000000) (dsimp := false) (disch := (first | omega | (simp only [okR]; done) | (simp only [sizeR] <;> omega) | fail)) only [↓preR, postR, ↓w_join, Nat.reduceEqDiff, Nat.reduceAdd, Nat.reduceSub, Nat.reduceMul, Int.reduceNeg, Nat.reduceLT, Int.reduceToNat, Nat.reduceLeDiff, Nat.sub_zero, F23]); exact hb (.inr (.inl h2))
  by_cases h3 : b < 1
  · (try simp (maxSteps := 1000000) (dsimp := false) (disch := (first | omega | (simp only [okR]; done) | (simp only [sizeR] <;> omega) | fail)) only [↓preR, postR, ↓w_join, Nat.reduceEqDiff, Nat.reduceAdd, Nat.reduceSub, Nat.reduceMul, Int.reduceNeg, Nat.reduceLT, Int.reduceToNat, Nat.reduceLeDiff, Nat.sub_zero, F23]); exact hb (.inr (.inr (.inl h3)))
  by_cases h4 : 4096 < b
  · (try simp (maxSteps := 1000000) (dsimp := false) (disch := (first | omega | (simp only [okR]; done) | (simp only [sizeR] <;> omega) | fail)) only [↓preR, postR, ↓w_join, Nat.reduceEqDiff, Nat.reduceAdd, Nat.reduceSub, Nat.reduceMul, Int.reduceNeg, Nat.reduceLT, Int.reduceToNat, Nat.reduceLeDiff, Nat.sub_zero, F23]); exact hb (.inr (.inr (.inr h4)))
  obtain ⟨A, rfl⟩ : ∃ A : Nat, a = A := ⟨a.toNat, by omega⟩
  obtain ⟨B, rfl⟩ : ∃ B : Nat, b = B := ⟨b.toNat, by omega⟩
  have eA : ((A : Int) + 1).toNat = A + 1 := by omega
  have eA2 : ((A : Int)).toNat = A := by omega
  have eB : ((B : Int)).toNat = B := by omega
  rw [eA2, eB] at hk
  (try simp (maxSteps := 1000000) (dsimp := false) (disch := (first | omega | (simp only [okR]; done) | (simp only [sizeR] <;> omega) | fail)) only [↓preR, postR, ↓w_join, Nat.reduceEqDiff, Nat.reduceAdd, Nat.reduceSub, Nat.reduceMul, Int.reduceNeg, Nat.reduceLT, Int.reduceToNat, Nat.reduceLeDiff, Nat.sub_zero, F23, eA])
  rw [flat_zero]
  have g1 := ((no_nodesR h A).new (cs := flat rnC (none :: List.replicate A none) [])).new (cs := [.slice (some ⟨σ.n, 0, none⟩) (A + 1) (A + 1), .int .i64 B])
  refine hk _ _ (by omega) (by omega) (by omega) (by omega) (Rf.close (x := ⟨σ.n, A + 1, [], List.replicate A none⟩) ?_ ⟨by simp, fun d hd => by simp at hd, by simp; omega, by simp, by show A + 1 ≤ maxLen; unfold maxLen; omega⟩)
  show Hs _ X (Cel _ [.slice (some ⟨σ.n, 0, none⟩) ((List.replicate A (none : Option RN)).length + 1) (A + 1), .int .i64 B] :: _)
  rw [List.length_replicate]
  exact g1
theorem plain_c (hi : inI64 i) (hat : inI64 at_) (hn : inI64 n) (hdl : data.length ≤ 1000000000) (hN : N ≤ 4096) (hu : used V ≤ N) (h : Hs σ X (Rf t N V :: R))
    (hm : ∀ d, atV V i = some d → -1000000 ≤ d.names ∧ d.names ≤ 1000000 ∧ -1000000 ≤ d.users ∧ d.users ≤ 1000000)
    (hk : ∀ m σ', MOk V N (ask, i, at_, n, data) m → Hs σ' X (Rf t N (doM (ask, i, at_, n, data) V m).2 :: R) →
      k (.tuple #[.int .i64 (doM (ask, i, at_, n, data) V m).1.1, .string (bs (doM (ask, i, at_, n, data) V m).1.2.1), .int .i64 (doM (ask, i, at_, n, data) V m).1.2.2]) σ') :
    kCall Try.prog 27 [pp t, .agg (opC (ask, i, at_, n, data)).toArray] σ k := by
  refine f27 ?_
  unfold inI64 at hi hat hn
  have h1 := h.junk (.cells (opC (ask, i, at_, n, data)))
  by_cases h0 : ask = 0
  · subst h0
    (simp (maxSteps := 1000000) (dsimp := false) (disch := (first | omega | (simp only [okR]; done) | (simp only [sizeR] <;> omega) | fail)) only [↓preR, postR, ↓w_join, Nat.reduceEqDiff, Nat.reduceAdd, Nat.reduceSub, Nat.reduceMul, Int.reduceNeg, Nat.reduceLT, Int.reduceToNat, Nat.reduceLeDiff, Nat.sub_zero, F27])
    refine rmake_c (i := i) (at_ := at_) (data := data) h1 fun σ1 h2 => ?_
    (try simp (maxSteps := 1000000) (dsimp := false) (disch := (first | omega | (simp only [okR]; done) | (simp only [sizeR] <;> omega) | fail)) only [↓preR, postR, ↓w_join, Nat.reduceEqDiff, Nat.reduceAdd, Nat.reduceSub, Nat.reduceMul, Int.reduceNeg, Nat.reduceLT, Int.reduceToNat, Nat.reduceLeDiff, Nat.sub_zero])
    have := hk 0 σ1 (fun d _ h => by cases h) h2
    have e1 : (doM (0, i, at_, n, data) V 0).1.2.1 = [] := by
      simp only [doM, if_true]
      split
      · rfl
      · split <;> rfl
    rw [e1] at this
    exact this
  by_cases h11 : ask = 1
  · subst h11
    (simp (maxSteps := 1000000) (dsimp := false) (disch := (first | omega | (simp only [okR]; done) | (simp only [sizeR] <;> omega) | fail)) only [↓preR, postR, ↓w_join, Nat.reduceEqDiff, Nat.reduceAdd, Nat.reduceSub, Nat.reduceMul, Int.reduceNeg, Nat.reduceLT, Int.reduceToNat, Nat.reduceLeDiff, Nat.sub_zero, F27])
    refine rtie_c (at_ := at_) (n := n) (data := data) h1 (fun d hd => ⟨(hm d hd).1, (hm d hd).2.1⟩) fun σ1 h2 => ?_
    (try simp (maxSteps := 1000000) (dsimp := false) (disch := (first | omega | (simp only [okR]; done) | (simp only [sizeR] <;> omega) | fail)) only [↓preR, postR, ↓w_join, Nat.reduceEqDiff, Nat.reduceAdd, Nat.reduceSub, Nat.reduceMul, Int.reduceNeg, Nat.reduceLT, Int.reduceToNat, Nat.reduceLeDiff, Nat.sub_zero])
    have := hk 0 σ1 (fun d _ h => by cases h) h2
    have e1 : (doM (1, i, at_, n, data) V 0).1.1 = 0 ∧ (doM (1, i, at_, n, data) V 0).1.2.1 = [] := by
      simp only [doM]
      cases atV V i <;> exact ⟨rfl, rfl⟩
    rw [e1.1, e1.2] at this
    exact this
  by_cases h12 : ask = 2
  · subst h12
    (simp (maxSteps := 1000000) (dsimp := false) (disch := (first | omega | (simp only [okR]; done) | (simp only [sizeR] <;> omega) | fail)) only [↓preR, postR, ↓w_join, Nat.reduceEqDiff, Nat.reduceAdd, Nat.reduceSub, Nat.reduceMul, Int.reduceNeg, Nat.reduceLT, Int.reduceToNat, Nat.reduceLeDiff, Nat.sub_zero, F27])
    refine runtie_c (at_ := at_) (n := n) (data := data) h1 (fun d hd => ⟨(hm d hd).1, (hm d hd).2.1⟩) fun σ1 h2 => ?_
    (try simp (maxSteps := 1000000) (dsimp := false) (disch := (first | omega | (simp only [okR]; done) | (simp only [sizeR] <;> omega) | fail)) only [↓preR, postR, ↓w_join, Nat.reduceEqDiff, Nat.reduceAdd, Nat.reduceSub, Nat.reduceMul, Int.reduceNeg, Nat.reduceLT, Int.reduceToNat, Nat.reduceLeDiff, Nat.sub_zero])
    have := hk 0 σ1 (fun d _ h => by cases h) h2
    have e1 : (doM (2, i, at_, n, data) V 0).1.1 = 0 ∧ (doM (2, i, at_, n, data) V 0).1.2.1 = [] := by
      simp only [doM]
      cases atV V i with
      | none => exact ⟨rfl, rfl⟩
      | some d => by_cases hx : d.names = 0 <;> simp [hx]
    rw [e1.1, e1.2] at this
    exact this
  by_cases h13 : ask = 3
  · subst h13
    (simp (maxSteps := 1000000) (dsimp := false) (disch := (first | omega | (simp only [okR]; done) | (simp only [sizeR] <;> omega) | fail)) only [↓preR, postR, ↓w_join, Nat.reduceEqDiff, Nat.reduceAdd, Nat.reduceSub, Nat.reduceMul, Int.reduceNeg, Nat.reduceLT, Int.reduceToNat, Nat.reduceLeDiff, Nat.sub_zero, F27])
    refine rhold_c (at_ := at_) (n := n) (data := data) h1 (fun d hd => ⟨(hm d hd).2.2.1, (hm d hd).2.2.2⟩) fun σ1 h2 => ?_
    (try simp (maxSteps := 1000000) (dsimp := false) (disch := (first | omega | (simp only [okR]; done) | (simp only [sizeR] <;> omega) | fail)) only [↓preR, postR, ↓w_join, Nat.reduceEqDiff, Nat.reduceAdd, Nat.reduceSub, Nat.reduceMul, Int.reduceNeg, Nat.reduceLT, Int.reduceToNat, Nat.reduceLeDiff, Nat.sub_zero])
    have := hk 0 σ1 (fun d _ h => by cases h) h2
    have e1 : (doM (3, i, at_, n, data) V 0).1.1 = 0 ∧ (doM (3, i, at_, n, data) V 0).1.2.1 = [] := by
      simp only [doM]
      cases atV V i <;> exact ⟨rfl, rfl⟩
    rw [e1.1, e1.2] at this
    exact this
  by_cases h14 : ask = 4
  · subst h14
    (simp (maxSteps := 1000000) (dsimp := false) (disch := (first | omega | (simp only [okR]; done) | (simp only [sizeR] <;> omega) | fail)) only [↓preR, postR, ↓w_join, Nat.reduceEqDiff, Nat.reduceAdd, Nat.reduceSub, Nat.reduceMul, Int.reduceNeg, Nat.reduceLT, Int.reduceToNat, Nat.reduceLeDiff, Nat.sub_zero, F27])
    refine rloose_c (at_ := at_) (n := n) (data := data) h1 (fun d hd => ⟨(hm d hd).2.2.1, (hm d hd).2.2.2⟩) fun σ1 h2 => ?_
    (try simp (maxSteps := 1000000) (dsimp := false) (disch := (first | omega | (simp only [okR]; done) | (simp only [sizeR] <;> omega) | fail)) only [↓preR, postR, ↓w_join, Nat.reduceEqDiff, Nat.reduceAdd, Nat.reduceSub, Nat.reduceMul, Int.reduceNeg, Nat.reduceLT, Int.reduceToNat, Nat.reduceLeDiff, Nat.sub_zero])
    have := hk 0 σ1 (fun d _ h => by cases h) h2
    have e1 : (doM (4, i, at_, n, data) V 0).1.1 = 0 ∧ (doM (4, i, at_, n, data) V 0).1.2.1 = [] := by
      simp only [doM]
      cases atV V i with
      | none => exact ⟨rfl, rfl⟩
      | some d => by_cases hx : d.users = 0 <;> simp [hx]
    rw [e1.1, e1.2] at this
    exact this
  by_cases h15 : ask = 5
  · subst h15
    (simp (maxSteps := 1000000) (dsimp := false) (disch := (first | omega | (simp only [okR]; done) | (simp only [sizeR] <;> omega) | fail)) only [↓preR, postR, ↓w_join, Nat.reduceEqDiff, Nat.reduceAdd, Nat.reduceSub, Nat.reduceMul, Int.reduceNeg, Nat.reduceLT, Int.reduceToNat, Nat.reduceLeDiff, Nat.sub_zero, F27])
    refine rread_c (data := data) h1 ?_
    (try simp (maxSteps := 1000000) (dsimp := false) (disch := (first | omega | (simp only [okR]; done) | (simp only [sizeR] <;> omega) | fail)) only [↓preR, postR, ↓w_join, Nat.reduceEqDiff, Nat.reduceAdd, Nat.reduceSub, Nat.reduceMul, Int.reduceNeg, Nat.reduceLT, Int.reduceToNat, Nat.reduceLeDiff, Nat.sub_zero])
    have e2 : (doM (5, i, at_, n, data) V 0).2 = V := by
      simp only [doM]
      cases atV V i with
      | none => rfl
      | some d => by_cases hx : at_ < 0 ∨ n < 0 <;> simp [hx]
    have := hk 0 _ (fun d _ h => by cases h) (by rw [e2]; exact h1)
    have e1 : (doM (5, i, at_, n, data) V 0).1.1 = 0 := by
      simp only [doM]
      cases atV V i with
      | none => rfl
      | some d => by_cases hx : at_ < 0 ∨ n < 0 <;> simp [hx]
    rw [e1] at this
    exact this
  by_cases h16 : ask = 6
  · subst h16
    (simp (maxSteps := 1000000) (dsimp := false) (disch := (first | omega | (simp only [okR]; done) | (simp only [sizeR] <;> omega) | fail)) only [↓preR, postR, ↓w_join, Nat.reduceEqDiff, Nat.reduceAdd, Nat.reduceSub, Nat.reduceMul, Int.reduceNeg, Nat.reduceLT, Int.reduceToNat, Nat.reduceLeDiff, Nat.sub_zero, F27])
    refine rwrite_c (n := n) h1 hN hu hdl (by omega) fun m σ1 hmo h2 => ?_
    (try simp (maxSteps := 1000000) (dsimp := false) (disch := (first | omega | (simp only [okR]; done) | (simp only [sizeR] <;> omega) | fail)) only [↓preR, postR, ↓w_join, Nat.reduceEqDiff, Nat.reduceAdd, Nat.reduceSub, Nat.reduceMul, Int.reduceNeg, Nat.reduceLT, Int.reduceToNat, Nat.reduceLeDiff, Nat.sub_zero])
    have := hk m σ1 hmo h2
    have e1 : (doM (6, i, at_, n, data) V m).1.2.1 = [] := by
      simp only [doM]
      cases atV V i with
      | none => rfl
      | some d =>
        by_cases hx : at_ < 0
        · simp [hx]
        · by_cases hy : m = 0 <;> simp [hx, hy]
    rw [e1] at this
    exact this
  · (simp (maxSteps := 1000000) (dsimp := false) (disch := (first | omega | (simp only [okR]; done) | (simp only [sizeR] <;> omega) | fail)) only [↓preR, postR, ↓w_join, Nat.reduceEqDiff, Nat.reduceAdd, Nat.reduceSub, Nat.reduceMul, Int.reduceNeg, Nat.reduceLT, Int.reduceToNat, Nat.reduceLeDiff, Nat.sub_zero, F27, h0, h11, h12, h13, h14, h15, h16])
    refine rcut_c (at_ := at_) (data := data) h1 fun σ1 h2 => ?_
    (try simp (maxSteps := 1000000) (dsimp := false) (disch := (first | omega | (simp only [okR]; done) | (simp only [sizeR] <;> omega) | fail)) only [↓preR, postR, ↓w_join, Nat.reduceEqDiff, Nat.reduceAdd, Nat.reduceSub, Nat.reduceMul, Int.reduceNeg, Nat.reduceLT, Int.reduceToNat, Nat.reduceLeDiff, Nat.sub_zero])
    have e2 : doM (ask, i, at_, n, data) V 0 = doM (7, i, at_, n, data) V 0 := by
      simp only [doM, h0, h11, h12, h13, h14, h15, h16, if_false]
      rfl
    have := hk 0 σ1 (fun d _ h => absurd h h16) (by rw [e2]; exact h2)
    rw [e2] at this
    have e1 : (doM (7, i, at_, n, data) V 0).1.1 = 0 ∧ (doM (7, i, at_, n, data) V 0).1.2.1 = [] := by
      simp only [doM]
      cases atV V i with
      | none => exact ⟨rfl, rfl⟩
      | some d =>
        by_cases hx : n < 0
        · simp [hx]
        · by_cases hy : 4096 < n <;> simp [hx, hy]
    rw [e1.1, e1.2] at this
    exact this
end
end Go.Proofs.Ytmkiaoddkodngaa
