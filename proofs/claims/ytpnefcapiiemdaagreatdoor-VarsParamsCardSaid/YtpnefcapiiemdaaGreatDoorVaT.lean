/- Names, as the document's answer has them. Conditions: none. -/
import Derived.Test.YtpnefcapiiemdaaGreatDoorVaQ
namespace Go.Proofs.YtpnefcapiiemdaaGreatDoor
open E Go.Lib
set_option linter.unusedVariables false
set_option linter.unusedSimpArgs false
set_option maxHeartbeats 1000000
set_option maxRecDepth 20000
def alphaR (c : UInt8) : Bool := (decide (97 ≤ (c.toNat : Int)) && decide ((c.toNat : Int) ≤ 122)) || ((decide (65 ≤ (c.toNat : Int)) && decide ((c.toNat : Int) ≤ 90)) || decide ((c.toNat : Int) = 95))
theorem alpha_all : (List.range 256).all (fun i => alphaB (UInt8.ofNat i) == alphaR (UInt8.ofNat i)) = true := by kernel_rfl
theorem alpha_eq (c : UInt8) : alphaR c = alphaB c := by
  have h := List.all_eq_true.1 alpha_all c.toNat (List.mem_range.2 c.toNat_lt)
  rw [UInt8.ofNat_toNat] at h
  exact (eq_of_beq h).symm
section
variable {σ σ' : AS} {X : Ce} {R : List Ck} {k : Value → AS → Prop} {s : List UInt8} {c : UInt8}
theorem ralpha_c (hk : k (.bool (alphaB c)) σ) : kCall Tryz.prog 56 [.int .u8 c.toNat] σ k := by
  refine f56 ?_
  rw [← alpha_eq] at hk
  unfold alphaR at hk
  by_cases h1 : 97 ≤ (c.toNat : Int)
  · by_cases h2 : (c.toNat : Int) ≤ 122
    · (simp (maxSteps := 1000000) (dsimp := false) (disch := (first | omega | (simp only [okR]; done) | (simp only [sizeR] <;> omega) | fail)) only [↓preR, postR, ↓w_join, Nat.reduceEqDiff, Nat.reduceAdd, Nat.reduceSub, Nat.reduceMul, Int.reduceNeg, Nat.reduceLT, Int.reduceToNat, Nat.reduceLeDiff, Nat.sub_zero, F56, h1, h2])
      simp only [h1, h2, decide_true, Bool.true_and, Bool.true_or] at hk
      exact hk
    · have h3 : ¬ (c.toNat : Int) ≤ 90 := by omega
      have h4 : 65 ≤ (c.toNat : Int) := by omega
      have h5 : ¬ (c.toNat : Int) = 95 := by omega
      (simp (maxSteps := 1000000) (dsimp := false) (disch := (first | omega | (simp only [okR]; done) | (simp only [sizeR] <;> omega) | fail)) only [↓preR, postR, ↓w_join, Nat.reduceEqDiff, Nat.reduceAdd, Nat.reduceSub, Nat.reduceMul, Int.reduceNeg, Nat.reduceLT, Int.reduceToNat, Nat.reduceLeDiff, Nat.sub_zero, F56, h1, h2, h3, h4, h5])
      simp only [h1, h2, h3, h4, h5, decide_true, decide_false, Bool.true_and, Bool.and_false, Bool.false_or] at hk
      exact hk
  · by_cases h4 : 65 ≤ (c.toNat : Int)
    · by_cases h3 : (c.toNat : Int) ≤ 90
      · (simp (maxSteps := 1000000) (dsimp := false) (disch := (first | omega | (simp only [okR]; done) | (simp only [sizeR] <;> omega) | fail)) only [↓preR, postR, ↓w_join, Nat.reduceEqDiff, Nat.reduceAdd, Nat.reduceSub, Nat.reduceMul, Int.reduceNeg, Nat.reduceLT, Int.reduceToNat, Nat.reduceLeDiff, Nat.sub_zero, F56, h1, h3, h4])
        simp only [h1, h3, h4, decide_true, decide_false, Bool.true_and, Bool.false_and, Bool.false_or, Bool.true_or] at hk
        exact hk
      · (simp (maxSteps := 1000000) (dsimp := false) (disch := (first | omega | (simp only [okR]; done) | (simp only [sizeR] <;> omega) | fail)) only [↓preR, postR, ↓w_join, Nat.reduceEqDiff, Nat.reduceAdd, Nat.reduceSub, Nat.reduceMul, Int.reduceNeg, Nat.reduceLT, Int.reduceToNat, Nat.reduceLeDiff, Nat.sub_zero, F56, h1, h3, h4])
        simp only [h1, h3, h4, decide_true, decide_false, Bool.true_and, Bool.false_and, Bool.false_or] at hk
        exact hk
    · have h5 : ¬ (c.toNat : Int) = 95 := by omega
      (simp (maxSteps := 1000000) (dsimp := false) (disch := (first | omega | (simp only [okR]; done) | (simp only [sizeR] <;> omega) | fail)) only [↓preR, postR, ↓w_join, Nat.reduceEqDiff, Nat.reduceAdd, Nat.reduceSub, Nat.reduceMul, Int.reduceNeg, Nat.reduceLT, Int.reduceToNat, Nat.reduceLeDiff, Nat.sub_zero, F56, h1, h4, h5])
      simp only [h1, h4, h5, decide_false, Bool.false_and, Bool.false_or] at hk
      exact hk
theorem rdigit_c (hk : k (.bool (digitB c)) σ) : kCall Tryz.prog 57 [.int .u8 c.toNat] σ k := by
  refine f57 ?_
  unfold digitB at hk
  by_cases h2 : 48 ≤ (c.toNat : Int)
  · (simp (maxSteps := 1000000) (dsimp := false) (disch := (first | omega | (simp only [okR]; done) | (simp only [sizeR] <;> omega) | fail)) only [↓preR, postR, ↓w_join, Nat.reduceEqDiff, Nat.reduceAdd, Nat.reduceSub, Nat.reduceMul, Int.reduceNeg, Nat.reduceLT, Int.reduceToNat, Nat.reduceLeDiff, Nat.sub_zero, F57, h2])
    simp only [h2, decide_true, Bool.true_and] at hk
    exact hk
  · (simp (maxSteps := 1000000) (dsimp := false) (disch := (first | omega | (simp only [okR]; done) | (simp only [sizeR] <;> omega) | fail)) only [↓preR, postR, ↓w_join, Nat.reduceEqDiff, Nat.reduceAdd, Nat.reduceSub, Nat.reduceMul, Int.reduceNeg, Nat.reduceLT, Int.reduceToNat, Nat.reduceLeDiff, Nat.sub_zero, F57, h2])
    simp only [h2, decide_false, Bool.false_and] at hk
    exact hk
theorem rfront_c (hl : s.length ≤ maxLen) (hk : k (.int .i64 (frontF 0 s)) σ) : kCall Tryz.prog 47 [.string (bs s)] σ k := by
  refine f47 ?_
  unfold maxLen at hl
  cases s with
  | nil =>
    (simp (maxSteps := 1000000) (dsimp := false) (disch := (first | omega | (simp only [okR]; done) | (simp only [sizeR] <;> omega) | fail)) only [↓preR, postR, ↓w_join, Nat.reduceEqDiff, Nat.reduceAdd, Nat.reduceSub, Nat.reduceMul, Int.reduceNeg, Nat.reduceLT, Int.reduceToNat, Nat.reduceLeDiff, Nat.sub_zero, F47])
    exact hk
  | cons c t =>
    have hne : (c :: t = []) = False := by simp
    have hlen : (c :: t).length = t.length + 1 := rfl
    rw [hlen] at hl
    (try simp (maxSteps := 1000000) (dsimp := false) (disch := (first | omega | (simp only [okR]; done) | (simp only [sizeR] <;> omega) | fail)) only [↓preR, postR, ↓w_stop, Nat.reduceEqDiff, Nat.reduceAdd, Nat.reduceSub, Nat.reduceMul, Int.reduceNeg, Nat.reduceLT, Int.reduceToNat, Nat.reduceLeDiff, Nat.sub_zero, F47, hne, hlen])
    refine join_by fun J hJ => ?_
    have hg : ((c :: t)[0]?.getD 0) = c := rfl
    have tail : alphaB c = true → J [] σ := by
      intro hA
      have hk2 : k (.int .i64 ((1 + frontF 1 t : Nat) : Int)) σ := by
        simp only [frontF, hA, Bool.true_or, if_true] at hk
        exact hk
      refine hJ _ _ ?_
      clear hJ
      (try simp (maxSteps := 1000000) (dsimp := false) (disch := (first | omega | (simp only [okR]; done) | (simp only [sizeR] <;> omega) | fail)) only [↓preR, postR, ↓w_stop, Nat.reduceEqDiff, Nat.reduceAdd, Nat.reduceSub, Nat.reduceMul, Int.reduceNeg, Nat.reduceLT, Int.reduceToNat, Nat.reduceLeDiff, Nat.sub_zero, hlen])
      refine join_now ?_
      refine loop_inv (fun nn xs s1 => ∃ j : Nat, xs = [.int .i64 ((j + 1 : Nat) : Int)] ∧ σ = s1 ∧ j ≤ t.length ∧ j + frontF (j + 1) (t.drop j) = frontF 1 t ∧ nn = t.length - j) _ ⟨0, rfl, rfl, Nat.zero_le _, by simp, rfl⟩ ?_
      rintro _ _ s1 again ⟨j, rfl, rfl, hj, hf, rfl⟩ hag
      by_cases hlt : j < t.length
      · rw [List.drop_eq_getElem_cons hlt] at hf
        simp only [frontF] at hf
        have h0 : 0 < j + 1 := by omega
        simp only [h0, decide_true, Bool.true_and] at hf
        have hg2 : (t[j]?.getD 0) = t[j] := by simp [hlt]
        (try simp (maxSteps := 1000000) (dsimp := false) (disch := (first | omega | (simp only [okR]; done) | (simp only [sizeR] <;> omega) | fail)) only [↓preR, postR, ↓w_stop, Nat.reduceEqDiff, Nat.reduceAdd, Nat.reduceSub, Nat.reduceMul, Int.reduceNeg, Nat.reduceLT, Int.reduceToNat, Nat.reduceLeDiff, Nat.sub_zero])
        refine join_now ?_
        have next : (1 + frontF (j + 1 + 1) (t.drop (j + 1)) + j = frontF 1 t) → again [.int .i64 ((j + 1 + 1 : Nat) : Int)] σ := fun e => hag _ _ _ ⟨j + 1, rfl, rfl, hlt, by omega, rfl⟩ (by omega)
        (try simp (maxSteps := 1000000) (dsimp := false) (disch := (first | omega | (simp only [okR]; done) | (simp only [sizeR] <;> omega) | fail)) only [↓preR, postR, ↓w_stop, Nat.reduceEqDiff, Nat.reduceAdd, Nat.reduceSub, Nat.reduceMul, Int.reduceNeg, Nat.reduceLT, Int.reduceToNat, Nat.reduceLeDiff, Nat.sub_zero, hlen, hg2])
        refine ralpha_c ?_
        cases hA2 : alphaB t[j] with
        | true =>
          rw [hA2, Bool.true_or, if_pos rfl] at hf
          (try simp (maxSteps := 1000000) (dsimp := false) (disch := (first | omega | (simp only [okR]; done) | (simp only [sizeR] <;> omega) | fail)) only [↓preR, postR, ↓w_join, Nat.reduceEqDiff, Nat.reduceAdd, Nat.reduceSub, Nat.reduceMul, Int.reduceNeg, Nat.reduceLT, Int.reduceToNat, Nat.reduceLeDiff, Nat.sub_zero])
          exact next (by omega)
        | false =>
          rw [hA2, Bool.false_or] at hf
          (try simp (maxSteps := 1000000) (dsimp := false) (disch := (first | omega | (simp only [okR]; done) | (simp only [sizeR] <;> omega) | fail)) only [↓preR, postR, ↓w_stop, Nat.reduceEqDiff, Nat.reduceAdd, Nat.reduceSub, Nat.reduceMul, Int.reduceNeg, Nat.reduceLT, Int.reduceToNat, Nat.reduceLeDiff, Nat.sub_zero, hlen, hg2])
          refine rdigit_c ?_
          cases hD : digitB t[j] with
          | true =>
            rw [hD, if_pos rfl] at hf
            (try simp (maxSteps := 1000000) (dsimp := false) (disch := (first | omega | (simp only [okR]; done) | (simp only [sizeR] <;> omega) | fail)) only [↓preR, postR, ↓w_join, Nat.reduceEqDiff, Nat.reduceAdd, Nat.reduceSub, Nat.reduceMul, Int.reduceNeg, Nat.reduceLT, Int.reduceToNat, Nat.reduceLeDiff, Nat.sub_zero])
            exact next (by omega)
          | false =>
            rw [hD] at hf
            simp at hf
            (try simp (maxSteps := 1000000) (dsimp := false) (disch := (first | omega | (simp only [okR]; done) | (simp only [sizeR] <;> omega) | fail)) only [↓preR, postR, ↓w_join, Nat.reduceEqDiff, Nat.reduceAdd, Nat.reduceSub, Nat.reduceMul, Int.reduceNeg, Nat.reduceLT, Int.reduceToNat, Nat.reduceLeDiff, Nat.sub_zero])
            have e : ((j + 1 : Nat) : Int) = ((1 + frontF 1 t : Nat) : Int) := by omega
            rw [e]
            exact hk2
      · (try simp (maxSteps := 1000000) (dsimp := false) (disch := (first | omega | (simp only [okR]; done) | (simp only [sizeR] <;> omega) | fail)) only [↓preR, postR, ↓w_join, Nat.reduceEqDiff, Nat.reduceAdd, Nat.reduceSub, Nat.reduceMul, Int.reduceNeg, Nat.reduceLT, Int.reduceToNat, Nat.reduceLeDiff, Nat.sub_zero, hlen])
        have : t.drop j = [] := List.drop_of_length_le (by omega)
        rw [this] at hf
        simp only [frontF, Nat.add_zero] at hf
        have e : ((j + 1 : Nat) : Int) = ((1 + frontF 1 t : Nat) : Int) := by omega
        rw [e]
        exact hk2
    clear hJ
    have hF : (c :: t = []) = False := by simp
    (try simp (maxSteps := 1000000) (dsimp := false) (disch := (first | omega | (simp only [okR]; done) | (simp only [sizeR] <;> omega) | fail)) only [↓preR, postR, ↓w_stop, Nat.reduceEqDiff, Nat.reduceAdd, Nat.reduceSub, Nat.reduceMul, Int.reduceNeg, Nat.reduceLT, Int.reduceToNat, Nat.reduceLeDiff, Nat.sub_zero, hlen, hF])
    refine ralpha_c (c := c) ?_
    cases hA : alphaB c with
    | true =>
      (try simp (maxSteps := 1000000) (dsimp := false) (disch := (first | omega | (simp only [okR]; done) | (simp only [sizeR] <;> omega) | fail)) only [↓preR, postR, ↓w_stop, Nat.reduceEqDiff, Nat.reduceAdd, Nat.reduceSub, Nat.reduceMul, Int.reduceNeg, Nat.reduceLT, Int.reduceToNat, Nat.reduceLeDiff, Nat.sub_zero])
      exact tail hA
    | false =>
      (try simp (maxSteps := 1000000) (dsimp := false) (disch := (first | omega | (simp only [okR]; done) | (simp only [sizeR] <;> omega) | fail)) only [↓preR, postR, ↓w_stop, Nat.reduceEqDiff, Nat.reduceAdd, Nat.reduceSub, Nat.reduceMul, Int.reduceNeg, Nat.reduceLT, Int.reduceToNat, Nat.reduceLeDiff, Nat.sub_zero])
      simp only [frontF, hA, Bool.false_or, Nat.lt_irrefl, decide_false, Bool.false_and] at hk
      exact hk
theorem rname_c (hl : s.length ≤ maxLen) (hk : k (.bool (nameB s)) σ) : kCall Tryz.prog 31 [.string (bs s)] σ k := by
  refine f31 ?_
  unfold nameB at hk
  by_cases h0 : s = []
  · (try simp (maxSteps := 1000000) (dsimp := false) (disch := (first | omega | (simp only [okR]; done) | (simp only [sizeR] <;> omega) | fail)) only [↓preR, postR, ↓w_join, Nat.reduceEqDiff, Nat.reduceAdd, Nat.reduceSub, Nat.reduceMul, Int.reduceNeg, Nat.reduceLT, Int.reduceToNat, Nat.reduceLeDiff, Nat.sub_zero, F31, h0])
    simp only [h0, ne_eq, not_true_eq_false, decide_false, Bool.false_and] at hk
    exact hk
  · (try simp (maxSteps := 1000000) (dsimp := false) (disch := (first | omega | (simp only [okR]; done) | (simp only [sizeR] <;> omega) | fail)) only [↓preR, postR, ↓w_join, Nat.reduceEqDiff, Nat.reduceAdd, Nat.reduceSub, Nat.reduceMul, Int.reduceNeg, Nat.reduceLT, Int.reduceToNat, Nat.reduceLeDiff, Nat.sub_zero, F31, h0])
    refine rfront_c hl ?_
    simp only [ne_eq, h0, not_false_eq_true, decide_true, Bool.true_and] at hk
    by_cases h1 : frontF 0 s = s.length
    · (try simp (maxSteps := 1000000) (dsimp := false) (disch := (first | omega | (simp only [okR]; done) | (simp only [sizeR] <;> omega) | fail)) only [↓preR, postR, ↓w_join, Nat.reduceEqDiff, Nat.reduceAdd, Nat.reduceSub, Nat.reduceMul, Int.reduceNeg, Nat.reduceLT, Int.reduceToNat, Nat.reduceLeDiff, Nat.sub_zero, h1])
      simp only [h1, decide_true] at hk
      exact hk
    · have h2 : ¬ ((frontF 0 s : Int) = s.length) := by omega
      (try simp (maxSteps := 1000000) (dsimp := false) (disch := (first | omega | (simp only [okR]; done) | (simp only [sizeR] <;> omega) | fail)) only [↓preR, postR, ↓w_join, Nat.reduceEqDiff, Nat.reduceAdd, Nat.reduceSub, Nat.reduceMul, Int.reduceNeg, Nat.reduceLT, Int.reduceToNat, Nat.reduceLeDiff, Nat.sub_zero, h2])
      simp only [h1, decide_false] at hk
      exact hk
end
abbrev zF : FV := ([], [], false, false, false)
def findF (L : List FV) (n : Str) : FV := (L.find? fun p => decide (p.1 = n)).getD zF
section
variable {σ σ' : AS} {X : Ce} {R : List Ck} {k : Value → AS → Prop} {r : Nat} {lv av : Value} {zero n : Str} {st : Int} {L : List FV}
theorem find_skip {j : Nat} (hj : j < L.length) (h : ¬ L[j].1 = n) : findF (L.drop j) n = findF (L.drop (j + 1)) n := by
  unfold findF
  rw [List.drop_eq_getElem_cons hj, List.find?_cons]
  simp [h]
theorem find_hit {j : Nat} (hj : j < L.length) (h : L[j].1 = n) : findF (L.drop j) n = L[j] := by
  unfold findF
  rw [List.drop_eq_getElem_cons hj, List.find?_cons]
  simp [h]
theorem find_c (h : Hs σ X (VarR lv L :: Cel r [lv, .string (bs zero), av, .int .i64 st] :: R)) (hk : ∀ σ', Hs σ' X (VarR lv L :: Cel r [lv, .string (bs zero), av, .int .i64 st] :: R) → k (.agg (celF (findF L n)).toArray) σ') :
    kCall Tryz.prog 41 [pv r, .string (bs n)] σ k := by
  refine f41 ?_
  have h1 : Hs _ X (VarR lv L :: Cel r [lv, .string (bs zero), av, .int .i64 st] :: Cel σ.n (celF zF) :: R) := (h.new (cs := celF zF)).un2
  obtain ⟨a, g, o, cap, rfl, hc, hm, hat⟩ := VarR.get h1
  unfold maxLen at hm
  (try simp (maxSteps := 1000000) (dsimp := false) (disch := (first | omega | (simp only [okR]; done) | (simp only [sizeR] <;> omega) | fail)) only [↓preR, postR, ↓w_stop, Nat.reduceEqDiff, Nat.reduceAdd, Nat.reduceSub, Nat.reduceMul, Int.reduceNeg, Nat.reduceLT, Int.reduceToNat, Nat.reduceLeDiff, Nat.sub_zero, F41])
  generalize σ.n = q at h1 hat ⊢
  generalize AS.new σ _ = s1 at h1 hat ⊢
  refine join_now ?_
  refine loop_inv (fun nn xs s => ∃ j : Nat, xs = [.int .i64 j] ∧ s1 = s ∧ j ≤ L.length ∧ findF (L.drop j) n = findF L n ∧ nn = L.length - j) _ ⟨0, rfl, rfl, Nat.zero_le _, by simp, rfl⟩ ?_
  rintro _ _ s again ⟨j, rfl, rfl, hj, hf, rfl⟩ hag
  have e2 : s1.m q = some (.cells (celF zF)) := (h1.front 2 rfl).obj
  have back : ∀ p : FV, Hs (s1.put q (.cells (celF p))) X (VarR (.slice a L.length cap) L :: Cel r [.slice a L.length cap, .string (bs zero), av, .int .i64 st] :: R) := fun p => ((h1.front 2 rfl).put (cs' := celF p)).drop
  by_cases hlt : j < L.length
  · obtain ⟨rfl, c⟩ := hat j hlt
    have c0 := c 0 _ rfl
    have c1 := c 1 _ rfl
    have c2 := c 2 _ rfl
    have c3 := c 3 _ rfl
    have c4 := c 4 _ rfl
    rw [Nat.add_zero] at c0
    by_cases hn : L[j].1 = n
    · have hT : (L[j].1 = n) = True := eq_true hn
      (simp (maxSteps := 1000000) (dsimp := false) (disch := (first | omega | (simp only [okR]; done) | (simp only [sizeR] <;> omega) | fail)) only [↓preR, postR, ↓w_join, Nat.reduceEqDiff, Nat.reduceAdd, Nat.reduceSub, Nat.reduceMul, Int.reduceNeg, Nat.reduceLT, Int.reduceToNat, Nat.reduceLeDiff, Nat.sub_zero, h1.obj1, c0, c1, c2, c3, c4, hT, e2])
      rw [find_hit hlt hn] at hf
      rw [← hf] at hk
      exact hk _ (back _)
    · (simp (maxSteps := 1000000) (dsimp := false) (disch := (first | omega | (simp only [okR]; done) | (simp only [sizeR] <;> omega) | fail)) only [↓preR, postR, ↓w_join, Nat.reduceEqDiff, Nat.reduceAdd, Nat.reduceSub, Nat.reduceMul, Int.reduceNeg, Nat.reduceLT, Int.reduceToNat, Nat.reduceLeDiff, Nat.sub_zero, h1.obj1, c0, hn])
      exact hag _ _ _ ⟨j + 1, by simp, rfl, hlt, by rw [← find_skip hlt hn]; exact hf, rfl⟩ (by omega)
  · (simp (maxSteps := 1000000) (dsimp := false) (disch := (first | omega | (simp only [okR]; done) | (simp only [sizeR] <;> omega) | fail)) only [↓preR, postR, ↓w_join, Nat.reduceEqDiff, Nat.reduceAdd, Nat.reduceSub, Nat.reduceMul, Int.reduceNeg, Nat.reduceLT, Int.reduceToNat, Nat.reduceLeDiff, Nat.sub_zero, h1.obj1, e2])
    rw [List.drop_of_length_le (by omega)] at hf
    have : findF L n = zF := hf.symm
    rw [this] at hk
    exact hk _ (back zF)
end
theorem u8_eq {a b : UInt8} (h1 : ¬ a < b) (h2 : ¬ b < a) : a = b :=
  UInt8.toNat_inj.1 (by
    have e1 : ¬ a.toNat < b.toNat := fun h => h1 (UInt8.lt_iff_toNat_lt.2 h)
    have e2 : ¬ b.toNat < a.toNat := fun h => h2 (UInt8.lt_iff_toNat_lt.2 h)
    omega)
theorem bl_eq : ∀ a b : Str, Op.bytesLess a b = decide (compareBytes a b < 0)
  | [], [] => by simp [Op.bytesLess, compareBytes]
  | [], _ :: _ => by simp [Op.bytesLess, compareBytes]
  | _ :: _, [] => by simp [Op.bytesLess, compareBytes]
  | a :: x, b :: y => by
    rw [Op.bytesLess, bl_eq x y]
    simp only [compareBytes]
    by_cases h1 : a < b
    · simp [h1]
    · by_cases h2 : b < a
      · have : ¬ a = b := by rintro rfl; exact h1 h2
        simp [h1, h2, this]
      · have := u8_eq h1 h2
        subst this
        simp [h1]
def gtS (a b : Str) : Bool := !(Op.bytesLess a b || decide (a = b))
theorem gt_eq (a b : Str) : gtS a b = decide (compareBytes b a < 0) := by
  unfold gtS
  rw [bl_eq]
  have h1 := cb_swap a b
  have h2 : a = b ↔ compareBytes a b = 0 := ⟨fun h => by rw [h]; exact cb_refl b, cb_eq⟩
  by_cases h3 : compareBytes a b < 0
  · have : ¬ compareBytes b a < 0 := by omega
    simp [h3, this]
  · by_cases h4 : a = b
    · have : ¬ compareBytes b a < 0 := by have := h2.1 h4; omega
      simp [h4, cb_refl]
    · have : compareBytes b a < 0 := by have h5 : ¬ compareBytes a b = 0 := fun h => h4 (h2.2 h); omega
      simp [h3, h4, this]
def putF (x : FV) : Bool → List FV → List FV
  | d, [] => if d then [] else [x]
  | d, p :: L => (if (!d && gtS p.1 x.1) = true then [x] else []) ++ ((if p.1 = x.1 then [] else [p]) ++ putF x (d || gtS p.1 x.1) L)
def Srt (L : List FV) : Prop := L.Pairwise fun p q => compareBytes p.1 q.1 < 0
section
variable {L M : List FV} {x p : FV} {d : Bool} {l : VL} {n m : Str} {x' : VV}
theorem srt_ext (hL : Srt L) (hM : Srt M) (h : ∀ p, p ∈ L ↔ p ∈ M) : L = M := by
  have nd : ∀ {L : List FV}, Srt L → L.Nodup := fun h => h.imp (fun {a b} hab e => by subst e; rw [cb_refl] at hab; omega)
  have hp : L.Perm M := (List.perm_ext_iff_of_nodup (nd hL) (nd hM)).2 h
  refine List.Perm.eq_of_pairwise (le := fun (p q : FV) => compareBytes p.1 q.1 < 0) ?_ hL hM hp
  intro a b _ _ h1 h2
  have := cb_trans h1 h2
  rw [cb_refl] at this
  omega
theorem mem_put : ∀ {L : List FV} {d : Bool}, p ∈ putF x d L ↔ (p = x ∧ d = false) ∨ (p ∈ L ∧ p.1 ≠ x.1)
  | [], d => by cases d <;> simp [putF]
  | q :: L, d => by
    unfold putF
    rw [List.mem_append, List.mem_append, mem_put (L := L)]
    by_cases hq : q.1 = x.1
    · have hqp : ¬ (p = q ∧ p.1 ≠ x.1) := fun h => h.2 (by rw [h.1]; exact hq)
      cases d <;> cases hg : gtS q.1 x.1 <;> simp [hq] <;> grind
    · cases d <;> cases hg : gtS q.1 x.1 <;> simp [hq] <;> grind
theorem srt_put : ∀ {L : List FV} {d : Bool}, Srt L → Srt (putF x d L)
  | [], d, _ => by cases d <;> simp [putF, Srt]
  | q :: L, d, h => by
    have h' := List.pairwise_cons.1 h
    have ih := fun d => srt_put (L := L) (d := d) h'.2
    have up : ∀ y, y ∈ putF x true L → compareBytes q.1 y.1 < 0 := fun y hy => by
      rcases mem_put.1 hy with h1 | h1
      · cases h1.2
      · exact h'.1 y h1.1
    unfold putF
    cases d with
    | true =>
      simp only [Bool.not_true, Bool.false_and, Bool.true_or, List.nil_append, Bool.false_eq_true, if_false]
      split
      · exact ih true
      · exact List.pairwise_cons.2 ⟨up, ih true⟩
    | false =>
      simp only [Bool.not_false, Bool.true_and, Bool.false_or]
      rw [gt_eq]
      by_cases hg : compareBytes x.1 q.1 < 0
      · have hne : ¬ q.1 = x.1 := fun e => by rw [e, cb_refl] at hg; omega
        simp only [hg, decide_true, if_true, hne, if_false]
        refine List.pairwise_cons.2 ⟨fun y hy => ?_, List.pairwise_cons.2 ⟨up, ih true⟩⟩
        rcases List.mem_cons.1 hy with rfl | hy
        · exact hg
        · exact cb_trans hg (up y hy)
      · simp only [hg, decide_false, Bool.false_eq_true, if_false, List.nil_append]
        split
        · exact ih false
        · rename_i hne
          refine List.pairwise_cons.2 ⟨fun y hy => ?_, ih false⟩
          rcases mem_put.1 hy with ⟨rfl, _⟩ | h1
          · have h1 := cb_swap q.1 y.1
            have h2 : ¬ compareBytes q.1 y.1 = 0 := fun e => hne (cb_eq e)
            show compareBytes q.1 y.1 < 0
            omega
          · exact h'.1 y h1.1
theorem lk_in (h : lkV l n = some x') : n ∈ l.map (·.1) := by
  unfold lkV at h
  cases hf : l.find? (fun q => decide (q.1 = n)) with
  | none => rw [hf] at h; cases h
  | some q =>
    have h1 := List.find?_some hf
    have h2 := List.mem_of_find?_eq_some hf
    simp only [decide_eq_true_iff] at h1
    exact List.mem_map.2 ⟨q, h2, h1⟩
theorem mem_all : p ∈ allV l ↔ ∃ y, lkV l p.1 = some y ∧ p = fvOf p.1 y := by
  unfold allV listV
  rw [List.mem_map]
  constructor
  · rintro ⟨n, hn, rfl⟩
    have hn := (List.mergeSort_perm _ _).mem_iff.1 hn
    obtain ⟨y, hy⟩ := lk_mem hn
    refine ⟨y, hy, ?_⟩
    show fvOf n (getV l n) = fvOf n y
    unfold getV
    rw [hy]
    rfl
  · rintro ⟨y, hy, e⟩
    refine ⟨p.1, (List.mergeSort_perm _ _).mem_iff.2 (lk_in hy), ?_⟩
    rw [e]
    show fvOf p.1 (getV l p.1) = fvOf p.1 y
    unfold getV
    rw [hy]
    rfl
theorem srt_all (h : (l.map (·.1)).Nodup) : Srt (allV l) := by
  have tr : ∀ (a b c : Str), (!ltOf cfS b a) = true → (!ltOf cfS c b) = true → (!ltOf cfS c a) = true := by
    intro a b c h1 h2
    simp only [Bool.not_eq_true'] at *
    exact swoS.ntrans _ _ _ h2 h1
  have to : ∀ (a b : Str), ((!ltOf cfS b a) || (!ltOf cfS a b)) = true := by
    intro a b
    cases h1 : ltOf cfS b a with
    | false => rfl
    | true =>
      cases h2 : ltOf cfS a b with
      | false => rfl
      | true => have := swoS.trans _ _ _ h1 h2; rw [swoS.irrefl] at this; cases this
  have h1 := List.pairwise_mergeSort tr to (l.map (·.1))
  have h2 : (sortS (l.map (·.1))).Nodup := (List.mergeSort_perm _ _).nodup_iff.2 h
  unfold Srt allV listV
  rw [List.pairwise_map]
  refine (h1.and h2).imp (fun {a b} hab => ?_)
  obtain ⟨h3, h4⟩ := hab
  show compareBytes a b < 0
  have h5 : ¬ compareBytes b a < 0 := by simpa [ltOf, cfS] using h3
  have h6 := cb_swap a b
  have h7 : ¬ compareBytes a b = 0 := fun e => h4 (cb_eq e)
  omega
theorem put_all (h : (l.map (·.1)).Nodup) (h' : ((turnV l n x').map (·.1)).Nodup) : putF (fvOf n x') (!(x'.set || x'.exp || x'.ro)) (allV l) = allV (turnV l n x') := by
  refine srt_ext (srt_put (srt_all h)) (srt_all h') (fun p => ?_)
  rw [mem_put, mem_all, mem_all]
  have e : lkV (turnV l n x') p.1 = if p.1 = n then (if (x'.set || x'.exp || x'.ro) = true then some x' else none) else lkV l p.1 := by
    unfold turnV
    split
    · rw [lk_ins]
    · rw [lk_del]
  rw [e]
  by_cases hp : p.1 = n
  · rw [if_pos hp]
    have h1 : ¬ p.1 ≠ (fvOf n x').1 := fun h => h hp
    by_cases hl : (x'.set || x'.exp || x'.ro) = true
    · rw [if_pos hl, hl]
      constructor
      · rintro (⟨rfl, _⟩ | h2)
        · exact ⟨x', rfl, rfl⟩
        · exact absurd h2.2 h1
      · rintro ⟨y, hy, e2⟩
        cases hy
        rw [hp] at e2
        exact .inl ⟨e2, rfl⟩
    · rw [if_neg hl]
      have hl' : (x'.set || x'.exp || x'.ro) = false := by simpa using hl
      rw [hl']
      constructor
      · rintro (⟨_, h2⟩ | h2)
        · cases h2
        · exact absurd h2.2 h1
      · rintro ⟨y, hy, _⟩
        cases hy
  · rw [if_neg hp]
    constructor
    · rintro (⟨rfl, _⟩ | h2)
      · exact absurd rfl hp
      · exact h2.1
    · intro h2
      exact .inr ⟨h2, hp⟩
theorem find_all : findF (allV l) n = fvOf (nmV l n) (getV l n) := by
  unfold findF nmV getV
  cases hx : lkV l n with
  | none =>
    rw [List.find?_eq_none.2]
    · rfl
    · intro p hp hpn
      obtain ⟨y, hy, _⟩ := mem_all.1 hp
      simp only [decide_eq_true_iff] at hpn
      rw [hpn, hx] at hy
      cases hy
  | some y =>
    cases hf : (allV l).find? (fun p => decide (p.1 = n)) with
    | none =>
      have := List.find?_eq_none.1 hf (fvOf n y) (mem_all.2 ⟨y, hx, rfl⟩)
      simp at this
    | some p =>
      have h1 := List.find?_some hf
      simp only [decide_eq_true_iff] at h1
      obtain ⟨z, hz, e⟩ := mem_all.1 (List.mem_of_find?_eq_some hf)
      rw [h1, hx] at hz
      cases hz
      rw [h1] at e
      rw [e]
      rfl
end
end Go.Proofs.YtpnefcapiiemdaaGreatDoor
