/- Processes that may go on, as the document's answer has them. Conditions: as each theorem says. -/
import Derived.Test.YtkponloccimdlaaPrP
import Derived.Test.YtkponloccimdlaaC
namespace Go.Proofs.Ytkponloccimdlaa
open E Go.Lib PT
set_option linter.unusedVariables false
set_option linter.unusedSimpArgs false
set_option maxHeartbeats 1000000
set_option maxRecDepth 20000

/-- Those that may go on, rising. -/
def readyL (f : PV) : Nat → List Int
  | 0 => []
  | n + 1 => if (f.get ((n : Int) + 1)).st = 1 then readyL f n ++ [(n : Int) + 1] else readyL f n
theorem readyL_len (f : PV) (n : Nat) : (readyL f n).length ≤ n := by
  induction n with
  | zero => exact Nat.le_refl _
  | succ n ih =>
    unfold readyL
    split
    · rw [List.length_append]; simp; omega
    · omega
theorem mem_ready {f : PV} {n : Nat} {i : Int} : i ∈ readyL f n ↔ 1 ≤ i ∧ i ≤ n ∧ (f.get i).st = 1 := by
  induction n with
  | zero => simp [readyL]; omega
  | succ n ih =>
    unfold readyL
    split
    · rename_i h
      rw [List.mem_append, ih, List.mem_singleton]
      constructor
      · rintro (⟨h1, h2, h3⟩ | rfl)
        · exact ⟨h1, by omega, h3⟩
        · exact ⟨by omega, by omega, h⟩
      · rintro ⟨h1, h2, h3⟩
        by_cases hi : i = (n : Int) + 1
        · exact .inr hi
        · exact .inl ⟨h1, by omega, h3⟩
    · rename_i h
      rw [ih]
      constructor
      · rintro ⟨h1, h2, h3⟩; exact ⟨h1, by omega, h3⟩
      · rintro ⟨h1, h2, h3⟩
        refine ⟨h1, ?_, h3⟩
        by_cases hi : i = (n : Int) + 1
        · subst hi; exact absurd h3 h
        · omega
theorem ready_sorted (f : PV) (n : Nat) : (readyL f n).Pairwise (· < ·) := by
  induction n with
  | zero => exact List.Pairwise.nil
  | succ n ih =>
    unfold readyL
    split
    · rw [List.pairwise_append]
      refine ⟨ih, List.pairwise_singleton _ _, fun a ha b hb => ?_⟩
      have := (mem_ready.1 ha).2.1
      simp only [List.mem_singleton] at hb
      omega
    · exact ih
section
variable {σ σ' : AS} {X : Ce} {R : List Ck} {k : Value → AS → Prop} {r g N : Nat} {f f' : PV} {ask p n a b e : Int}
theorem rready_c (h : Hs σ X (RT r g N f R)) (hN : N ≤ 1024) (hk : ∀ v σ', Hs σ' X (E.Own (α := Int) v (readyL f N) :: RT r g N f R) → k v σ') :
    kCall Try.prog 19 [pp r] σ k := by
  refine f19 ?_
  (try simp (maxSteps := 1000000) (dsimp := false) (disch := (first | omega | (simp only [okR]; done) | (simp only [sizeR] <;> omega) | fail)) only [↓preR, postR, ↓w_stop, Nat.reduceEqDiff, Nat.reduceAdd, Nat.reduceSub, Nat.reduceMul, Int.reduceNeg, Nat.reduceLT, Int.reduceToNat, Nat.reduceLeDiff, Nat.sub_zero, F19])
  refine join_by fun J1 hJ1 => ?_
  refine loop_inv (fun nn xs s => ∃ (j : Nat) (v : Value), xs = [v, .int .i64 ((j : Int) + 1)] ∧ j ≤ N ∧ Hs s X (E.Own (α := Int) v (readyL f j) :: RT r g N f R) ∧ nn = N - j) _ ⟨0, _, rfl, by omega, h.own0, rfl⟩ ?_
  rintro _ _ s again ⟨j, v, rfl, hj, h2, rfl⟩ hag
  have e1 := (h2.front 1 rfl).obj
  have e2 := (h2.front 2 rfl).obj
  (try simp (maxSteps := 1000000) (dsimp := false) (disch := (first | omega | (simp only [okR]; done) | (simp only [sizeR] <;> omega) | fail)) only [↓preR, postR, ↓w_stop, Nat.reduceEqDiff, Nat.reduceAdd, Nat.reduceSub, Nat.reduceMul, Int.reduceNeg, Nat.reduceLT, Int.reduceToNat, Nat.reduceLeDiff, Nat.sub_zero, e1])
  refine join_now ?_
  by_cases hlt : j < N
  rotate_left
  · (try simp (maxSteps := 1000000) (dsimp := false) (disch := (first | omega | (simp only [okR]; done) | (simp only [sizeR] <;> omega) | fail)) only [↓preR, postR, ↓w_stop, Nat.reduceEqDiff, Nat.reduceAdd, Nat.reduceSub, Nat.reduceMul, Int.reduceNeg, Nat.reduceLT, Int.reduceToNat, Nat.reduceLeDiff, Nat.sub_zero, e1])
    refine hJ1 _ _ ?_
    have : j = N := by omega
    subst this
    (try simp (maxSteps := 1000000) (dsimp := false) (disch := (first | omega | (simp only [okR]; done) | (simp only [sizeR] <;> omega) | fail)) only [↓preR, postR, ↓w_stop, Nat.reduceEqDiff, Nat.reduceAdd, Nat.reduceSub, Nat.reduceMul, Int.reduceNeg, Nat.reduceLT, Int.reduceToNat, Nat.reduceLeDiff, Nat.sub_zero])
    exact hk _ _ h2
  have c0 := row0 (f := f) (N := N) (i := j + 1) (by omega)
  have ex : ((j + 1 : Nat) : Int) = (j : Int) + 1 := by omega
  have en : ((j : Int) + 1).toNat = j + 1 := by omega
  have hrl := readyL_len f j
  rw [ex] at c0
  (try simp (maxSteps := 1000000) (dsimp := false) (disch := (first | omega | (simp only [okR]; done) | (simp only [sizeR] <;> omega) | fail)) only [↓preR, postR, ↓w_stop, Nat.reduceEqDiff, Nat.reduceAdd, Nat.reduceSub, Nat.reduceMul, Int.reduceNeg, Nat.reduceLT, Int.reduceToNat, Nat.reduceLeDiff, Nat.sub_zero, e1])
  refine join_by fun J4 hJ4 => ?_
  have tail : ∀ (w : Value) (s' : AS), Hs s' X (E.Own (α := Int) w (readyL f (j + 1)) :: RT r g N f R) → J4 [w] s' := by
    intro w s' h'
    refine hJ4 _ _ ?_
    (try simp (maxSteps := 1000000) (dsimp := false) (disch := (first | omega | (simp only [okR]; done) | (simp only [sizeR] <;> omega) | fail)) only [↓preR, postR, ↓w_stop, Nat.reduceEqDiff, Nat.reduceAdd, Nat.reduceSub, Nat.reduceMul, Int.reduceNeg, Nat.reduceLT, Int.reduceToNat, Nat.reduceLeDiff, Nat.sub_zero])
    exact hag _ _ _ ⟨j + 1, w, rfl, by omega, h', rfl⟩ (by omega)
  clear hJ4
  by_cases hs : (f.get ((j : Int) + 1)).st = 1
  · have er : readyL f (j + 1) = readyL f j ++ [(j : Int) + 1] := by
      show (if _ then _ else _) = _
      rw [if_pos hs]
    rw [er] at tail
    rw [hs] at c0
    (try simp (maxSteps := 1000000) (dsimp := false) (disch := (first | omega | (simp only [okR]; done) | (simp only [sizeR] <;> omega) | fail)) only [↓preR, postR, ↓w_stop, Nat.reduceEqDiff, Nat.reduceAdd, Nat.reduceSub, Nat.reduceMul, Int.reduceNeg, Nat.reduceLT, Int.reduceToNat, Nat.reduceLeDiff, Nat.sub_zero, e1, e2, en, c0])
    refine push_by h2 (e := 3) (bytes := 8) (by kernel_rfl) (by kernel_rfl) (a := (j : Int) + 1) ⟨rfl, by unfold inI64; omega⟩ (by omega) (by unfold maxLen; omega) fun v' s4 h5 => ?_
    (try simp (maxSteps := 1000000) (dsimp := false) (disch := (first | omega | (simp only [okR]; done) | (simp only [sizeR] <;> omega) | fail)) only [↓preR, postR, ↓w_stop, Nat.reduceEqDiff, Nat.reduceAdd, Nat.reduceSub, Nat.reduceMul, Int.reduceNeg, Nat.reduceLT, Int.reduceToNat, Nat.reduceLeDiff, Nat.sub_zero])
    exact tail _ _ h5
  · have er : readyL f (j + 1) = readyL f j := by
      show (if _ then _ else _) = _
      rw [if_neg hs]
    rw [er] at tail
    (try simp (maxSteps := 1000000) (dsimp := false) (disch := (first | omega | (simp only [okR]; done) | (simp only [sizeR] <;> omega) | fail)) only [↓preR, postR, ↓w_stop, Nat.reduceEqDiff, Nat.reduceAdd, Nat.reduceSub, Nat.reduceMul, Int.reduceNeg, Nat.reduceLT, Int.reduceToNat, Nat.reduceLeDiff, Nat.sub_zero, e1, e2, en, c0, hs])
    exact tail _ _ h2
end
end Go.Proofs.Ytkponloccimdlaa
