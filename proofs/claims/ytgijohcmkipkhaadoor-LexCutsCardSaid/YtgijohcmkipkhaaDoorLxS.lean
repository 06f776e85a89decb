/- The tokens of a text's first lines are those of the whole: the law. Conditions: none. -/
import Derived.Test.YtgijohcmkipkhaaDoorLxQ
namespace Go.Proofs.YtgijohcmkipkhaaDoor
open E Go.Lib
open Go.RowKit
set_option linter.unusedVariables false
set_option linter.unusedSimpArgs false
set_option maxHeartbeats 1000000
set_option maxRecDepth 20000

section
variable {σ σ' : AS} {X : Ce} {R : List Ck} {k : Value → AS → Prop} {s : Str}
theorem cuts_law {v0 v1 : Value} {c : Ce} (h : Hs σ c []) (A0 : OV c (shOf Tryd.prog 8 9) v0) (A1 : OV c (shOf Tryd.prog 8 9) v1) : kCall Tryd.prog 5 [v0, v1] σ fun v _ => v = .bool true := by
  rw [show shOf Tryd.prog 8 9 = .str from by kernel_rfl] at A0 A1
  obtain ⟨a, rfl, ha⟩ := arg_str A0
  obtain ⟨b, rfl, hb⟩ := arg_str A1
  unfold maxLen at ha hb
  refine f5 ?_
  by_cases hl1 : 500 < a.length
  · (try simp (maxSteps := 1000000) (dsimp := false) (disch := (first | omega | (simp only [okR]; done) | (simp only [sizeR] <;> omega) | fail)) only [↓preR, postR, ↓w_stop, Nat.reduceEqDiff, Nat.reduceAdd, Nat.reduceSub, Nat.reduceMul, Int.reduceNeg, Nat.reduceLT, Int.reduceToNat, Nat.reduceLeDiff, Nat.sub_zero, F5])
    refine join_now ?_
    (try simp (maxSteps := 1000000) (dsimp := false) (disch := (first | omega | (simp only [okR]; done) | (simp only [sizeR] <;> omega) | fail)) only [↓preR, postR, ↓w_stop, Nat.reduceEqDiff, Nat.reduceAdd, Nat.reduceSub, Nat.reduceMul, Int.reduceNeg, Nat.reduceLT, Int.reduceToNat, Nat.reduceLeDiff, Nat.sub_zero])
    refine awake_c h fun X' s1 _ h1 => ?_
    (try simp (maxSteps := 1000000) (dsimp := false) (disch := (first | omega | (simp only [okR]; done) | (simp only [sizeR] <;> omega) | fail)) only [↓preR, postR, ↓w_stop, Nat.reduceEqDiff, Nat.reduceAdd, Nat.reduceSub, Nat.reduceMul, Int.reduceNeg, Nat.reduceLT, Int.reduceToNat, Nat.reduceLeDiff, Nat.sub_zero])
  by_cases hl2 : 500 < b.length
  · (try simp (maxSteps := 1000000) (dsimp := false) (disch := (first | omega | (simp only [okR]; done) | (simp only [sizeR] <;> omega) | fail)) only [↓preR, postR, ↓w_stop, Nat.reduceEqDiff, Nat.reduceAdd, Nat.reduceSub, Nat.reduceMul, Int.reduceNeg, Nat.reduceLT, Int.reduceToNat, Nat.reduceLeDiff, Nat.sub_zero, F5])
    refine join_now ?_
    (try simp (maxSteps := 1000000) (dsimp := false) (disch := (first | omega | (simp only [okR]; done) | (simp only [sizeR] <;> omega) | fail)) only [↓preR, postR, ↓w_stop, Nat.reduceEqDiff, Nat.reduceAdd, Nat.reduceSub, Nat.reduceMul, Int.reduceNeg, Nat.reduceLT, Int.reduceToNat, Nat.reduceLeDiff, Nat.sub_zero])
    refine awake_c h fun X' s1 _ h1 => ?_
    (try simp (maxSteps := 1000000) (dsimp := false) (disch := (first | omega | (simp only [okR]; done) | (simp only [sizeR] <;> omega) | fail)) only [↓preR, postR, ↓w_stop, Nat.reduceEqDiff, Nat.reduceAdd, Nat.reduceSub, Nat.reduceMul, Int.reduceNeg, Nat.reduceLT, Int.reduceToNat, Nat.reduceLeDiff, Nat.sub_zero])
  (try simp (maxSteps := 1000000) (dsimp := false) (disch := (first | omega | (simp only [okR]; done) | (simp only [sizeR] <;> omega) | fail)) only [↓preR, postR, ↓w_stop, Nat.reduceEqDiff, Nat.reduceAdd, Nat.reduceSub, Nat.reduceMul, Int.reduceNeg, Nat.reduceLT, Int.reduceToNat, Nat.reduceLeDiff, Nat.sub_zero, F5])
  refine join_now ?_
  (try simp (maxSteps := 1000000) (dsimp := false) (disch := (first | omega | (simp only [okR]; done) | (simp only [sizeR] <;> omega) | fail)) only [↓preR, postR, ↓w_stop, Nat.reduceEqDiff, Nat.reduceAdd, Nat.reduceSub, Nat.reduceMul, Int.reduceNeg, Nat.reduceLT, Int.reduceToNat, Nat.reduceLeDiff, Nat.sub_zero])
  refine join_by fun J2 hJ2 => ?_
  have tail : CutA a → J2 [] σ := by
    intro hA
    refine hJ2 _ _ ?_
    clear hJ2
    obtain ⟨O, e1, hP, e2⟩ := lex_cut (b := b) hA (by omega) (by omega)
    (try simp (maxSteps := 1000000) (dsimp := false) (disch := (first | omega | (simp only [okR]; done) | (simp only [sizeR] <;> omega) | fail)) only [↓preR, postR, ↓w_stop, Nat.reduceEqDiff, Nat.reduceAdd, Nat.reduceSub, Nat.reduceMul, Int.reduceNeg, Nat.reduceLT, Int.reduceToNat, Nat.reduceLeDiff, Nat.sub_zero])
    refine lex_c (by simp; omega) h fun X1 u s1 _ h1 => ?_
    rw [e1] at h1 ⊢
    (try simp (maxSteps := 1000000) (dsimp := false) (disch := (first | omega | (simp only [okR]; done) | (simp only [sizeR] <;> omega) | fail)) only [↓preR, postR, ↓w_stop, Nat.reduceEqDiff, Nat.reduceAdd, Nat.reduceSub, Nat.reduceMul, Int.reduceNeg, Nat.reduceLT, Int.reduceToNat, Nat.reduceLeDiff, Nat.sub_zero])
    refine lex_c (by simp; omega) h1 fun X2 w s2 _ h2 => ?_
    generalize lexP ((a ++ [10]) ++ b) = W at e2 h2 ⊢
    obtain ⟨M, at', e⟩ := W
    simp only at e2 h2 ⊢
    obtain ⟨ux, uc, rfl, _⟩ := (h2.front 1 rfl).own
    obtain ⟨wx, wc, rfl, hwc⟩ := h2.own
    have hOM : O.length ≤ M.length := by
      by_cases h0 : O.length = 0
      · omega
      · have := e2 (O.length - 1) (by omega)
        rw [List.getElem?_eq_getElem (show O.length - 1 < O.length by omega)] at this
        have := (List.getElem?_eq_some_iff.1 this).1
        omega
    have hno : ¬ ((M.length : Int) < (O.length : Int)) := by omega
    (try simp (maxSteps := 1000000) (dsimp := false) (disch := (first | omega | (simp only [okR]; done) | (simp only [sizeR] <;> omega) | fail)) only [↓preR, postR, ↓w_stop, Nat.reduceEqDiff, Nat.reduceAdd, Nat.reduceSub, Nat.reduceMul, Int.reduceNeg, Nat.reduceLT, Int.reduceToNat, Nat.reduceLeDiff, Nat.sub_zero, hno])
    refine join_now ?_
    (try simp (maxSteps := 1000000) (dsimp := false) (disch := (first | omega | (simp only [okR]; done) | (simp only [sizeR] <;> omega) | fail)) only [↓preR, postR, ↓w_stop, Nat.reduceEqDiff, Nat.reduceAdd, Nat.reduceSub, Nat.reduceMul, Int.reduceNeg, Nat.reduceLT, Int.reduceToNat, Nat.reduceLeDiff, Nat.sub_zero])
    refine join_now ?_
    refine loop_inv (fun nn xs s3 => ∃ j : Nat, xs = [.int .i64 j] ∧ s2 = s3 ∧ j ≤ O.length ∧ nn = O.length - j) _ ⟨0, rfl, rfl, Nat.zero_le _, rfl⟩ ?_
    rintro _ _ s3 again ⟨j, rfl, rfl, hj, rfl⟩ hag
    (try simp (maxSteps := 1000000) (dsimp := false) (disch := (first | omega | (simp only [okR]; done) | (simp only [sizeR] <;> omega) | fail)) only [↓preR, postR, ↓w_stop, Nat.reduceEqDiff, Nat.reduceAdd, Nat.reduceSub, Nat.reduceMul, Int.reduceNeg, Nat.reduceLT, Int.reduceToNat, Nat.reduceLeDiff, Nat.sub_zero])
    refine join_now ?_
    by_cases hlt : j < O.length
    rotate_left
    · (try simp (maxSteps := 1000000) (dsimp := false) (disch := (first | omega | (simp only [okR]; done) | (simp only [sizeR] <;> omega) | fail)) only [↓preR, postR, ↓w_stop, Nat.reduceEqDiff, Nat.reduceAdd, Nat.reduceSub, Nat.reduceMul, Int.reduceNeg, Nat.reduceLT, Int.reduceToNat, Nat.reduceLeDiff, Nat.sub_zero])
      refine awake_c h2 fun X' s4 _ h4 => ?_
      (try simp (maxSteps := 1000000) (dsimp := false) (disch := (first | omega | (simp only [okR]; done) | (simp only [sizeR] <;> omega) | fail)) only [↓preR, postR, ↓w_stop, Nat.reduceEqDiff, Nat.reduceAdd, Nat.reduceSub, Nat.reduceMul, Int.reduceNeg, Nat.reduceLT, Int.reduceToNat, Nat.reduceLeDiff, Nat.sub_zero])
    have hltM : j < M.length := by omega
    have hjM : M[j] = O[j] := by
      have := e2 j hlt
      rw [List.getElem?_eq_getElem hlt, List.getElem?_eq_getElem hltM] at this
      exact Option.some.inj this
    obtain ⟨g1, c1, y1, b1, f1, hcl, hcm, m1, _, hT1, x0, x1, x2, x3, x4, _⟩ := tok_at (h2.front 1 rfl) hlt
    obtain ⟨g2, c2, y2, b2, f2, _, _, m2, _, hT2, z0, z1, z2, z3, z4, _⟩ := tok_at h2 hltM
    unfold maxLen at hcm
    injection f1 with f1 _ _
    injection f2 with f2 _ _
    subst f1
    subst f2
    rw [hjM] at hT2 z0 z1 z2 z3
    have hraw := (hP _ (List.getElem_mem hlt)).2.1
    have hb1 := hT1.1 _ hraw
    have hb2 := hT2.1 _ hraw
    subst hb1
    subst hb2
    have x2' : y1[j * 5 + 1 + 1]? = some (.int .i64 O[j].at') := x2
    have x3' : y1[j * 5 + 1 + 1 + 1]? = some (.string (bs O[j].body)) := x3
    have x4' : y1[j * 5 + 1 + 1 + 1 + 1]? = some (.bool false) := x4
    have z2' : y2[j * 5 + 1 + 1]? = some (.int .i64 O[j].at') := z2
    have z3' : y2[j * 5 + 1 + 1 + 1]? = some (.string (bs O[j].body)) := z3
    have z4' : y2[j * 5 + 1 + 1 + 1 + 1]? = some (.bool false) := z4
    (try simp (maxSteps := 1000000) (dsimp := false) (disch := (first | omega | (simp only [okR]; done) | (simp only [sizeR] <;> omega) | fail)) only [↓preR, postR, ↓w_stop, Nat.reduceEqDiff, Nat.reduceAdd, Nat.reduceSub, Nat.reduceMul, Int.reduceNeg, Nat.reduceLT, Int.reduceToNat, Nat.reduceLeDiff, Nat.sub_zero])
    refine join_now ?_
    (try simp (maxSteps := 1000000) (dsimp := false) (disch := (first | omega | (simp only [okR]; done) | (simp only [sizeR] <;> omega) | fail)) only [↓preR, postR, ↓w_stop, Nat.reduceEqDiff, Nat.reduceAdd, Nat.reduceSub, Nat.reduceMul, Int.reduceNeg, Nat.reduceLT, Int.reduceToNat, Nat.reduceLeDiff, Nat.sub_zero, m1, m2, x0, x1, x2', x3', x4', z0, z1, z2', z3', z4'])
    refine sne_by (ks := [.i .i64, .s, .i .i64, .s, .b]) (by kernel_rfl) [.i .i64 O[j].kind, .s O[j].text, .i .i64 O[j].at', .s O[j].body, .b false] [.i .i64 O[j].kind, .s O[j].text, .i .i64 O[j].at', .s O[j].body, .b false] rfl rfl ?_
    rw [decide_eq_true rfl]
    (try simp (maxSteps := 1000000) (dsimp := false) (disch := (first | omega | (simp only [okR]; done) | (simp only [sizeR] <;> omega) | fail)) only [↓preR, postR, ↓w_stop, Nat.reduceEqDiff, Nat.reduceAdd, Nat.reduceSub, Nat.reduceMul, Int.reduceNeg, Nat.reduceLT, Int.reduceToNat, Nat.reduceLeDiff, Nat.sub_zero, Bool.not_true])
    exact hag _ _ _ ⟨j + 1, rfl, rfl, hlt, rfl⟩ (by omega)
  clear hJ2
  (try simp (maxSteps := 1000000) (dsimp := false) (disch := (first | omega | (simp only [okR]; done) | (simp only [sizeR] <;> omega) | fail)) only [↓preR, postR, ↓w_stop, Nat.reduceEqDiff, Nat.reduceAdd, Nat.reduceSub, Nat.reduceMul, Int.reduceNeg, Nat.reduceLT, Int.reduceToNat, Nat.reduceLeDiff, Nat.sub_zero])
  refine loop_inv (fun nn xs s2 => ∃ j : Nat, xs = [.int .i64 j] ∧ σ = s2 ∧ j ≤ a.length ∧ CutA (a.take j) ∧ nn = a.length - j) _ ⟨0, rfl, rfl, Nat.zero_le _, fun c hc => by simp at hc, rfl⟩ ?_
  rintro _ _ s2 again ⟨j, rfl, rfl, hj, hA, rfl⟩ hag
  (try simp (maxSteps := 1000000) (dsimp := false) (disch := (first | omega | (simp only [okR]; done) | (simp only [sizeR] <;> omega) | fail)) only [↓preR, postR, ↓w_stop, Nat.reduceEqDiff, Nat.reduceAdd, Nat.reduceSub, Nat.reduceMul, Int.reduceNeg, Nat.reduceLT, Int.reduceToNat, Nat.reduceLeDiff, Nat.sub_zero])
  refine join_now ?_
  by_cases hlt : j < a.length
  rotate_left
  · rw [List.take_of_length_le (by omega)] at hA
    (try simp (maxSteps := 1000000) (dsimp := false) (disch := (first | omega | (simp only [okR]; done) | (simp only [sizeR] <;> omega) | fail)) only [↓preR, postR, ↓w_stop, Nat.reduceEqDiff, Nat.reduceAdd, Nat.reduceSub, Nat.reduceMul, Int.reduceNeg, Nat.reduceLT, Int.reduceToNat, Nat.reduceLeDiff, Nat.sub_zero])
    exact tail hA
  (try simp (maxSteps := 1000000) (dsimp := false) (disch := (first | omega | (simp only [okR]; done) | (simp only [sizeR] <;> omega) | fail)) only [↓preR, postR, ↓w_stop, Nat.reduceEqDiff, Nat.reduceAdd, Nat.reduceSub, Nat.reduceMul, Int.reduceNeg, Nat.reduceLT, Int.reduceToNat, Nat.reduceLeDiff, Nat.sub_zero])
  refine join_by fun J10 hJ10 => ?_
  have next : CutB a[j] → J10 [] σ := by
    intro hB
    refine hJ10 _ _ ?_
    (try simp (maxSteps := 1000000) (dsimp := false) (disch := (first | omega | (simp only [okR]; done) | (simp only [sizeR] <;> omega) | fail)) only [↓preR, postR, ↓w_stop, Nat.reduceEqDiff, Nat.reduceAdd, Nat.reduceSub, Nat.reduceMul, Int.reduceNeg, Nat.reduceLT, Int.reduceToNat, Nat.reduceLeDiff, Nat.sub_zero])
    refine hag _ _ _ ⟨j + 1, rfl, rfl, hlt, ?_, rfl⟩ (by omega)
    rw [List.take_succ_eq_append_getElem hlt]
    intro c hc
    rcases List.mem_append.1 hc with hc | hc
    · exact hA c hc
    · simp only [List.mem_singleton] at hc; subst hc; exact hB
  clear hJ10
  (try simp (maxSteps := 1000000) (dsimp := false) (disch := (first | omega | (simp only [okR]; done) | (simp only [sizeR] <;> omega) | fail)) only [↓preR, postR, ↓w_stop, Nat.reduceEqDiff, Nat.reduceAdd, Nat.reduceSub, Nat.reduceMul, Int.reduceNeg, Nat.reduceLT, Int.reduceToNat, Nat.reduceLeDiff, Nat.sub_zero, getd hlt])
  refine join_by fun J11 hJ11 => ?_
  have t11 : ∀ x : Bool, (x = false → CutB a[j]) → J11 [.bool x] σ := by
    intro x hx
    refine hJ11 _ _ ?_
    cases x with
    | true =>
      (try simp (maxSteps := 1000000) (dsimp := false) (disch := (first | omega | (simp only [okR]; done) | (simp only [sizeR] <;> omega) | fail)) only [↓preR, postR, ↓w_stop, Nat.reduceEqDiff, Nat.reduceAdd, Nat.reduceSub, Nat.reduceMul, Int.reduceNeg, Nat.reduceLT, Int.reduceToNat, Nat.reduceLeDiff, Nat.sub_zero])
      refine awake_c h fun X' s4 _ h4 => ?_
      (try simp (maxSteps := 1000000) (dsimp := false) (disch := (first | omega | (simp only [okR]; done) | (simp only [sizeR] <;> omega) | fail)) only [↓preR, postR, ↓w_stop, Nat.reduceEqDiff, Nat.reduceAdd, Nat.reduceSub, Nat.reduceMul, Int.reduceNeg, Nat.reduceLT, Int.reduceToNat, Nat.reduceLeDiff, Nat.sub_zero])
    | false =>
      (try simp (maxSteps := 1000000) (dsimp := false) (disch := (first | omega | (simp only [okR]; done) | (simp only [sizeR] <;> omega) | fail)) only [↓preR, postR, ↓w_stop, Nat.reduceEqDiff, Nat.reduceAdd, Nat.reduceSub, Nat.reduceMul, Int.reduceNeg, Nat.reduceLT, Int.reduceToNat, Nat.reduceLeDiff, Nat.sub_zero])
      exact next (hx rfl)
  clear hJ11
  have dd : ∀ (x : UInt8) (n : Int), n = x.toNat → decide ((a[j].toNat : Int) = n) = decide (a[j] = x) := by
    intro x n hn
    by_cases h : a[j] = x
    · rw [decide_eq_true h, decide_eq_true (by rw [hn, h])]
    · rw [decide_eq_false h, decide_eq_false (fun h' => h (UInt8.toNat_inj.1 (by omega)))]
  have tt : ∀ (x : UInt8) (n : Int), n = x.toNat → a[j] = x → ((a[j].toNat : Int) = n) = True := fun x n hn h => eq_true (by rw [hn, h])
  have ff : ∀ (x : UInt8) (n : Int), n = x.toNat → ¬ a[j] = x → ((a[j].toNat : Int) = n) = False := fun x n hn h => eq_false (fun h' => h (UInt8.toNat_inj.1 (by omega)))
  by_cases c1 : a[j] = 92
  · (try simp (maxSteps := 1000000) (dsimp := false) (disch := (first | omega | (simp only [okR]; done) | (simp only [sizeR] <;> omega) | fail)) only [↓preR, postR, ↓w_stop, Nat.reduceEqDiff, Nat.reduceAdd, Nat.reduceSub, Nat.reduceMul, Int.reduceNeg, Nat.reduceLT, Int.reduceToNat, Nat.reduceLeDiff, Nat.sub_zero, tt 92 92 rfl c1]); exact t11 true (fun h => by cases h)
  by_cases c2 : a[j] = 39
  · (try simp (maxSteps := 1000000) (dsimp := false) (disch := (first | omega | (simp only [okR]; done) | (simp only [sizeR] <;> omega) | fail)) only [↓preR, postR, ↓w_stop, Nat.reduceEqDiff, Nat.reduceAdd, Nat.reduceSub, Nat.reduceMul, Int.reduceNeg, Nat.reduceLT, Int.reduceToNat, Nat.reduceLeDiff, Nat.sub_zero, ff 92 92 rfl c1, tt 39 39 rfl c2]); exact t11 true (fun h => by cases h)
  by_cases c3 : a[j] = 34
  · (try simp (maxSteps := 1000000) (dsimp := false) (disch := (first | omega | (simp only [okR]; done) | (simp only [sizeR] <;> omega) | fail)) only [↓preR, postR, ↓w_stop, Nat.reduceEqDiff, Nat.reduceAdd, Nat.reduceSub, Nat.reduceMul, Int.reduceNeg, Nat.reduceLT, Int.reduceToNat, Nat.reduceLeDiff, Nat.sub_zero, ff 92 92 rfl c1, ff 39 39 rfl c2, tt 34 34 rfl c3]); exact t11 true (fun h => by cases h)
  by_cases c4 : a[j] = 40
  · (try simp (maxSteps := 1000000) (dsimp := false) (disch := (first | omega | (simp only [okR]; done) | (simp only [sizeR] <;> omega) | fail)) only [↓preR, postR, ↓w_stop, Nat.reduceEqDiff, Nat.reduceAdd, Nat.reduceSub, Nat.reduceMul, Int.reduceNeg, Nat.reduceLT, Int.reduceToNat, Nat.reduceLeDiff, Nat.sub_zero, ff 92 92 rfl c1, ff 39 39 rfl c2, ff 34 34 rfl c3, tt 40 40 rfl c4]); exact t11 true (fun h => by cases h)
  by_cases c5 : a[j] = 123
  · (try simp (maxSteps := 1000000) (dsimp := false) (disch := (first | omega | (simp only [okR]; done) | (simp only [sizeR] <;> omega) | fail)) only [↓preR, postR, ↓w_stop, Nat.reduceEqDiff, Nat.reduceAdd, Nat.reduceSub, Nat.reduceMul, Int.reduceNeg, Nat.reduceLT, Int.reduceToNat, Nat.reduceLeDiff, Nat.sub_zero, ff 92 92 rfl c1, ff 39 39 rfl c2, ff 34 34 rfl c3, ff 40 40 rfl c4, tt 123 123 rfl c5]); exact t11 true (fun h => by cases h)
  by_cases c6 : a[j] = 60
  · (try simp (maxSteps := 1000000) (dsimp := false) (disch := (first | omega | (simp only [okR]; done) | (simp only [sizeR] <;> omega) | fail)) only [↓preR, postR, ↓w_stop, Nat.reduceEqDiff, Nat.reduceAdd, Nat.reduceSub, Nat.reduceMul, Int.reduceNeg, Nat.reduceLT, Int.reduceToNat, Nat.reduceLeDiff, Nat.sub_zero, ff 92 92 rfl c1, ff 39 39 rfl c2, ff 34 34 rfl c3, ff 40 40 rfl c4, ff 123 123 rfl c5, tt 60 60 rfl c6]); exact t11 true (fun h => by cases h)
  by_cases c7 : a[j] = 96
  · (try simp (maxSteps := 1000000) (dsimp := false) (disch := (first | omega | (simp only [okR]; done) | (simp only [sizeR] <;> omega) | fail)) only [↓preR, postR, ↓w_stop, Nat.reduceEqDiff, Nat.reduceAdd, Nat.reduceSub, Nat.reduceMul, Int.reduceNeg, Nat.reduceLT, Int.reduceToNat, Nat.reduceLeDiff, Nat.sub_zero, ff 92 92 rfl c1, ff 39 39 rfl c2, ff 34 34 rfl c3, ff 40 40 rfl c4, ff 123 123 rfl c5, ff 60 60 rfl c6, tt 96 96 rfl c7]); exact t11 true (fun h => by cases h)
  (try simp (maxSteps := 1000000) (dsimp := false) (disch := (first | omega | (simp only [okR]; done) | (simp only [sizeR] <;> omega) | fail)) only [↓preR, postR, ↓w_stop, Nat.reduceEqDiff, Nat.reduceAdd, Nat.reduceSub, Nat.reduceMul, Int.reduceNeg, Nat.reduceLT, Int.reduceToNat, Nat.reduceLeDiff, Nat.sub_zero, ff 92 92 rfl c1, ff 39 39 rfl c2, ff 34 34 rfl c3, ff 40 40 rfl c4, ff 123 123 rfl c5, ff 60 60 rfl c6, ff 96 96 rfl c7])
  exact t11 false (fun _ => ⟨c1, c2, c3, c4, c5, c6, c7⟩)
end
end Go.Proofs.YtgijohcmkipkhaaDoor
