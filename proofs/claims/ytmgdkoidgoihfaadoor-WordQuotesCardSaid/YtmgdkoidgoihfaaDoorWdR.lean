/- The law WordQuotes: a text in quotes, of either kind, is one quoted Lit. Conditions: as each theorem says. -/
import Derived.Test.YtmgdkoidgoihfaaDoorWdN
import Derived.Test.YtmgdkoidgoihfaaDoorWdQ
namespace Go.Proofs.YtmgdkoidgoihfaaDoor
open E Go.Lib
open Go.RowKit
set_option linter.unusedVariables false
set_option linter.unusedSimpArgs false
set_option maxHeartbeats 1000000
set_option maxRecDepth 20000

theorem escQ_cons (c : UInt8) (s : Str) : escQ (c :: s) = if c = 39 then 39 :: 92 :: 39 :: 39 :: escQ s else c :: escQ s := rfl
theorem escD_cons (c : UInt8) (s : Str) : escD (c :: s) = if c = 36 ∨ c = 34 ∨ c = 92 ∨ c = 96 then 92 :: c :: escD s else c :: escD s := rfl
theorem escQ_len : ∀ s : Str, (escQ s).length ≤ 4 * s.length
  | [] => Nat.le_refl _
  | c :: s => by
    have := escQ_len s
    rw [escQ_cons]
    split <;> simp only [List.length_cons] <;> omega
theorem escD_len : ∀ s : Str, (escD s).length ≤ 2 * s.length
  | [] => Nat.le_refl _
  | c :: s => by
    have := escD_len s
    rw [escD_cons]
    split <;> simp only [List.length_cons] <;> omega
theorem quotes_law {σ : AS} {v0 : Value} {c : Ce} (h : Hs σ c []) (A0 : OV c (shOf Tryd.prog 8 9) v0) : kCall Tryd.prog 4 [v0] σ fun v _ => v = .bool true := by
  rw [show shOf Tryd.prog 8 9 = .str from by kernel_rfl] at A0
  obtain ⟨s, rfl, hs⟩ := arg_str A0
  unfold maxLen at hs
  refine f4 ?_
  have q1 := escQ_len s
  have q2 := escD_len s
  (try simp (maxSteps := 1000000) (dsimp := false) (disch := (first | omega | (simp only [okR]; done) | (simp only [sizeR] <;> omega) | fail)) only [↓preR, postR, ↓w_stop, Nat.reduceEqDiff, Nat.reduceAdd, Nat.reduceSub, Nat.reduceMul, Int.reduceNeg, Nat.reduceLT, Int.reduceToNat, Nat.reduceLeDiff, Nat.sub_zero, F4])
  refine join_now ?_
  by_cases hl : 300 < s.length
  · (try simp (maxSteps := 1000000) (dsimp := false) (disch := (first | omega | (simp only [okR]; done) | (simp only [sizeR] <;> omega) | fail)) only [↓preR, postR, ↓w_stop, Nat.reduceEqDiff, Nat.reduceAdd, Nat.reduceSub, Nat.reduceMul, Int.reduceNeg, Nat.reduceLT, Int.reduceToNat, Nat.reduceLeDiff, Nat.sub_zero])
    refine awake_c h fun X' s1 _ h1 => ?_
    (try simp (maxSteps := 1000000) (dsimp := false) (disch := (first | omega | (simp only [okR]; done) | (simp only [sizeR] <;> omega) | fail)) only [↓preR, postR, ↓w_stop, Nat.reduceEqDiff, Nat.reduceAdd, Nat.reduceSub, Nat.reduceMul, Int.reduceNeg, Nat.reduceLT, Int.reduceToNat, Nat.reduceLeDiff, Nat.sub_zero])
  (try simp (maxSteps := 1000000) (dsimp := false) (disch := (first | omega | (simp only [okR]; done) | (simp only [sizeR] <;> omega) | fail)) only [↓preR, postR, ↓w_stop, Nat.reduceEqDiff, Nat.reduceAdd, Nat.reduceSub, Nat.reduceMul, Int.reduceNeg, Nat.reduceLT, Int.reduceToNat, Nat.reduceLeDiff, Nat.sub_zero])
  refine join_by fun J2 hJ2 => ?_
  have tail : J2 [.string (bs (39 :: escQ s)), .string (bs (34 :: escD s))] σ := by
    refine hJ2 _ _ ?_
    clear hJ2
    have e1 : 39 :: escQ s ++ [39] = 39 :: (escQ s ++ [39]) := rfl
    have e2 : 34 :: escD s ++ [34] = 34 :: (escD s ++ [34]) := rfl
    have l1 : (39 :: (escQ s ++ [39])).length ≤ 4096 := by simp; omega
    have l2 : (34 :: (escD s ++ [34])).length ≤ 4096 := by simp; omega
    (try simp (maxSteps := 1000000) (dsimp := false) (disch := (first | omega | (simp only [okR]; done) | (simp only [sizeR] <;> omega) | fail)) only [↓preR, postR, ↓w_stop, Nat.reduceEqDiff, Nat.reduceAdd, Nat.reduceSub, Nat.reduceMul, Int.reduceNeg, Nat.reduceLT, Int.reduceToNat, Nat.reduceLeDiff, Nat.sub_zero])
    refine parse_c (s := 39 :: (escQ s ++ [39])) h ?_ (by unfold maxLen; omega)
    rw [wd_single s l1]
    intro X1 u1 s1 x1 r1 h1
    have r1' := r1
    obtain ⟨a1, b1, o1, cp1, rfl, _, _, at1⟩ := pts_at r1
    (try simp (maxSteps := 1000000) (dsimp := false) (disch := (first | omega | (simp only [okR]; done) | (simp only [sizeR] <;> omega) | fail)) only [↓preR, postR, ↓w_stop, Nat.reduceEqDiff, Nat.reduceAdd, Nat.reduceSub, Nat.reduceMul, Int.reduceNeg, Nat.reduceLT, Int.reduceToNat, Nat.reduceLeDiff, Nat.sub_zero])
    refine parse_c (s := 34 :: (escD s ++ [34])) h1 ?_ (by unfold maxLen; omega)
    rw [wd_double s l2]
    intro X2 u2 s2 x2 r2 h2
    have r2' := r2
    obtain ⟨a2, b2, o2, cp2, rfl, _, _, at2⟩ := pts_at r2
    obtain ⟨rfl, w1, _, _, _, _, _, c0, c1, c2, _⟩ := at1 0 (by simp)
    have d0 := h2.ldx (x2 _ _ _ c0)
    have d1 := h2.ldx (x2 _ _ _ c1)
    have d2 := h2.ldx (x2 _ _ _ c2)
    simp only [List.getElem_cons_zero, Pt.kind, Pt.text, Pt.quote, Nat.zero_mul, Nat.add_zero] at d0 d1 d2
    (try simp (maxSteps := 1000000) (dsimp := false) (disch := (first | omega | (simp only [okR]; done) | (simp only [sizeR] <;> omega) | fail)) only [↓preR, postR, ↓w_stop, Nat.reduceEqDiff, Nat.reduceAdd, Nat.reduceSub, Nat.reduceMul, Int.reduceNeg, Nat.reduceLT, Int.reduceToNat, Nat.reduceLeDiff, Nat.sub_zero, d0, d1, d2])
    refine same_c _ (Nat.lt_succ_self _) (r1'.mono x2) r2' h2 fun s3 h3 => ?_
    rw [eqW_refl]
    (try simp (maxSteps := 1000000) (dsimp := false) (disch := (first | omega | (simp only [okR]; done) | (simp only [sizeR] <;> omega) | fail)) only [↓preR, postR, ↓w_stop, Nat.reduceEqDiff, Nat.reduceAdd, Nat.reduceSub, Nat.reduceMul, Int.reduceNeg, Nat.reduceLT, Int.reduceToNat, Nat.reduceLeDiff, Nat.sub_zero])
    refine awake_c h3 fun X4 s4 _ h4 => ?_
    (try simp (maxSteps := 1000000) (dsimp := false) (disch := (first | omega | (simp only [okR]; done) | (simp only [sizeR] <;> omega) | fail)) only [↓preR, postR, ↓w_stop, Nat.reduceEqDiff, Nat.reduceAdd, Nat.reduceSub, Nat.reduceMul, Int.reduceNeg, Nat.reduceLT, Int.reduceToNat, Nat.reduceLeDiff, Nat.sub_zero])
  clear hJ2
  (try simp (maxSteps := 1000000) (dsimp := false) (disch := (first | omega | (simp only [okR]; done) | (simp only [sizeR] <;> omega) | fail)) only [↓preR, postR, ↓w_stop, Nat.reduceEqDiff, Nat.reduceAdd, Nat.reduceSub, Nat.reduceMul, Int.reduceNeg, Nat.reduceLT, Int.reduceToNat, Nat.reduceLeDiff, Nat.sub_zero])
  refine loop_inv (fun nn xs s2 => ∃ (j : Nat) (t u : Str), xs = [.string (bs t), .string (bs u), .int .i64 j] ∧ σ = s2 ∧ j ≤ s.length ∧ t ++ escQ (s.drop j) = 39 :: escQ s ∧ u ++ escD (s.drop j) = 34 :: escD s ∧ nn = s.length - j) _ ⟨0, [39], [34], rfl, rfl, Nat.zero_le _, rfl, rfl, rfl⟩ ?_
  rintro _ _ s2 again ⟨j, t, u, rfl, rfl, hj, ht, hu, rfl⟩ hag
  (try simp (maxSteps := 1000000) (dsimp := false) (disch := (first | omega | (simp only [okR]; done) | (simp only [sizeR] <;> omega) | fail)) only [↓preR, postR, ↓w_stop, Nat.reduceEqDiff, Nat.reduceAdd, Nat.reduceSub, Nat.reduceMul, Int.reduceNeg, Nat.reduceLT, Int.reduceToNat, Nat.reduceLeDiff, Nat.sub_zero])
  refine join_now ?_
  by_cases hlt : j < s.length
  rotate_left
  · rw [List.drop_of_length_le (by omega)] at ht hu
    simp only [escQ, escD, List.append_nil] at ht hu
    (try simp (maxSteps := 1000000) (dsimp := false) (disch := (first | omega | (simp only [okR]; done) | (simp only [sizeR] <;> omega) | fail)) only [↓preR, postR, ↓w_stop, Nat.reduceEqDiff, Nat.reduceAdd, Nat.reduceSub, Nat.reduceMul, Int.reduceNeg, Nat.reduceLT, Int.reduceToNat, Nat.reduceLeDiff, Nat.sub_zero])
    rw [ht, hu]
    exact tail
  rw [drop_c hlt, escQ_cons] at ht
  rw [drop_c hlt, escD_cons] at hu
  have hgd : (s[j]?.getD 0) = s[j] := by simp [hlt]
  have htl : t.length ≤ 1 + 4 * s.length := by
    have := congrArg List.length ht
    rw [List.length_append, List.length_cons] at this
    omega
  have hul : u.length ≤ 1 + 2 * s.length := by
    have := congrArg List.length hu
    rw [List.length_append, List.length_cons] at this
    omega
  have i39 := u8_eq (c := s[j]) (x := 39) (n := 39) rfl
  have i36 := u8_eq (c := s[j]) (x := 36) (n := 36) rfl
  have i34 := u8_eq (c := s[j]) (x := 34) (n := 34) rfl
  have i92 := u8_eq (c := s[j]) (x := 92) (n := 92) rfl
  have i96 := u8_eq (c := s[j]) (x := 96) (n := 96) rfl
  (try simp (maxSteps := 1000000) (dsimp := false) (disch := (first | omega | (simp only [okR]; done) | (simp only [sizeR] <;> omega) | fail)) only [↓preR, postR, ↓w_stop, Nat.reduceEqDiff, Nat.reduceAdd, Nat.reduceSub, Nat.reduceMul, Int.reduceNeg, Nat.reduceLT, Int.reduceToNat, Nat.reduceLeDiff, Nat.sub_zero])
  refine join_by fun J5 hJ5 => ?_
  have tail5 : ∀ t' u' : Str, t' ++ escQ (s.drop (j + 1)) = 39 :: escQ s → u' ++ escD (s.drop (j + 1)) = 34 :: escD s → J5 [.string (bs t'), .string (bs u')] σ := by
    intro t' u' ht' hu'
    refine hJ5 _ _ ?_
    (try simp (maxSteps := 1000000) (dsimp := false) (disch := (first | omega | (simp only [okR]; done) | (simp only [sizeR] <;> omega) | fail)) only [↓preR, postR, ↓w_stop, Nat.reduceEqDiff, Nat.reduceAdd, Nat.reduceSub, Nat.reduceMul, Int.reduceNeg, Nat.reduceLT, Int.reduceToNat, Nat.reduceLeDiff, Nat.sub_zero])
    exact hag _ _ _ ⟨j + 1, t', u', rfl, rfl, hlt, ht', hu', rfl⟩ (by omega)
  clear hJ5
  have hsub : (s.drop j).take (j + 1 - j) = [s[j]] := by
    rw [show j + 1 - j = 1 from by omega, drop_c hlt]; rfl
  have hsub' : (s.drop j).take 1 = [s[j]] := by rw [drop_c hlt]; rfl
  (try simp (maxSteps := 1000000) (dsimp := false) (disch := (first | omega | (simp only [okR]; done) | (simp only [sizeR] <;> omega) | fail)) only [↓preR, postR, ↓w_stop, Nat.reduceEqDiff, Nat.reduceAdd, Nat.reduceSub, Nat.reduceMul, Int.reduceNeg, Nat.reduceLT, Int.reduceToNat, Nat.reduceLeDiff, Nat.sub_zero, hgd])
  refine join_by fun J6 hJ6 => ?_
  have tail6 : ∀ t' : Str, t' ++ (s[j] :: escQ (s.drop (j + 1))) = 39 :: escQ s → t'.length ≤ 3000 → J6 [.string (bs t')] σ := by
    intro t' ht' htl'
    refine hJ6 _ _ ?_
    clear hJ6
    (try simp (maxSteps := 1000000) (dsimp := false) (disch := (first | omega | (simp only [okR]; done) | (simp only [sizeR] <;> omega) | fail)) only [↓preR, postR, ↓w_stop, Nat.reduceEqDiff, Nat.reduceAdd, Nat.reduceSub, Nat.reduceMul, Int.reduceNeg, Nat.reduceLT, Int.reduceToNat, Nat.reduceLeDiff, Nat.sub_zero, hgd])
    refine join_by fun J7 hJ7 => ?_
    have tail7 : ∀ u' : Str, u' ++ (s[j] :: escD (s.drop (j + 1))) = 34 :: escD s → u'.length ≤ 3000 → J7 [.string (bs u')] σ := by
      intro u' hu' hul'
      refine hJ7 _ _ ?_
      have sl : ((s.drop j).take (j + 1 - j)).length = 1 := by rw [hsub]; rfl
      (try simp (maxSteps := 1000000) (dsimp := false) (disch := (first | omega | (simp only [okR]; done) | (simp only [sizeR] <;> omega) | fail)) only [↓preR, postR, ↓w_stop, Nat.reduceEqDiff, Nat.reduceAdd, Nat.reduceSub, Nat.reduceMul, Int.reduceNeg, Nat.reduceLT, Int.reduceToNat, Nat.reduceLeDiff, Nat.sub_zero, hsub, hsub', sl])
      refine tail5 _ _ ?_ ?_
      · rw [← ht']; simp
      · rw [← hu']; simp
    clear hJ7
    by_cases e : s[j].toNat = 36 ∨ s[j].toNat = 34 ∨ s[j].toNat = 92 ∨ s[j].toNat = 96
    · rw [if_pos (by rw [i36, i34, i92, i96]; exact e)] at hu
      have go := tail7 (u ++ [92]) (by rw [← hu]; simp) (by rw [List.length_append]; simp; omega)
      by_cases e1 : s[j].toNat = 36
      · (try simp (maxSteps := 1000000) (dsimp := false) (disch := (first | omega | (simp only [okR]; done) | (simp only [sizeR] <;> omega) | fail)) only [↓preR, postR, ↓w_stop, Nat.reduceEqDiff, Nat.reduceAdd, Nat.reduceSub, Nat.reduceMul, Int.reduceNeg, Nat.reduceLT, Int.reduceToNat, Nat.reduceLeDiff, Nat.sub_zero, hgd]); exact go
      by_cases e2 : s[j].toNat = 34
      · (try simp (maxSteps := 1000000) (dsimp := false) (disch := (first | omega | (simp only [okR]; done) | (simp only [sizeR] <;> omega) | fail)) only [↓preR, postR, ↓w_stop, Nat.reduceEqDiff, Nat.reduceAdd, Nat.reduceSub, Nat.reduceMul, Int.reduceNeg, Nat.reduceLT, Int.reduceToNat, Nat.reduceLeDiff, Nat.sub_zero, hgd]); exact go
      by_cases e3 : s[j].toNat = 92
      · (try simp (maxSteps := 1000000) (dsimp := false) (disch := (first | omega | (simp only [okR]; done) | (simp only [sizeR] <;> omega) | fail)) only [↓preR, postR, ↓w_stop, Nat.reduceEqDiff, Nat.reduceAdd, Nat.reduceSub, Nat.reduceMul, Int.reduceNeg, Nat.reduceLT, Int.reduceToNat, Nat.reduceLeDiff, Nat.sub_zero, hgd]); exact go
      have e4 : s[j].toNat = 96 := by omega
      (try simp (maxSteps := 1000000) (dsimp := false) (disch := (first | omega | (simp only [okR]; done) | (simp only [sizeR] <;> omega) | fail)) only [↓preR, postR, ↓w_stop, Nat.reduceEqDiff, Nat.reduceAdd, Nat.reduceSub, Nat.reduceMul, Int.reduceNeg, Nat.reduceLT, Int.reduceToNat, Nat.reduceLeDiff, Nat.sub_zero, hgd]); exact go
    · rw [if_neg (by rw [i36, i34, i92, i96]; exact e)] at hu
      have e1 : ¬ s[j].toNat = 36 := fun h => e (.inl h)
      have e2 : ¬ s[j].toNat = 34 := fun h => e (.inr (.inl h))
      have e3 : ¬ s[j].toNat = 92 := fun h => e (.inr (.inr (.inl h)))
      have e4 : ¬ s[j].toNat = 96 := fun h => e (.inr (.inr (.inr h)))
      (try simp (maxSteps := 1000000) (dsimp := false) (disch := (first | omega | (simp only [okR]; done) | (simp only [sizeR] <;> omega) | fail)) only [↓preR, postR, ↓w_stop, Nat.reduceEqDiff, Nat.reduceAdd, Nat.reduceSub, Nat.reduceMul, Int.reduceNeg, Nat.reduceLT, Int.reduceToNat, Nat.reduceLeDiff, Nat.sub_zero, hgd])
      exact tail7 u hu (by omega)
  clear hJ6
  by_cases e : s[j].toNat = 39
  · rw [if_pos (i39.2 e)] at ht
    (try simp (maxSteps := 1000000) (dsimp := false) (disch := (first | omega | (simp only [okR]; done) | (simp only [sizeR] <;> omega) | fail)) only [↓preR, postR, ↓w_stop, Nat.reduceEqDiff, Nat.reduceAdd, Nat.reduceSub, Nat.reduceMul, Int.reduceNeg, Nat.reduceLT, Int.reduceToNat, Nat.reduceLeDiff, Nat.sub_zero, hgd])
    exact tail6 (t ++ [39, 92, 39]) (by rw [← ht, i39.2 e]; simp) (by rw [List.length_append]; simp; omega)
  · rw [if_neg (fun h => e (i39.1 h))] at ht
    (try simp (maxSteps := 1000000) (dsimp := false) (disch := (first | omega | (simp only [okR]; done) | (simp only [sizeR] <;> omega) | fail)) only [↓preR, postR, ↓w_stop, Nat.reduceEqDiff, Nat.reduceAdd, Nat.reduceSub, Nat.reduceMul, Int.reduceNeg, Nat.reduceLT, Int.reduceToNat, Nat.reduceLeDiff, Nat.sub_zero, hgd])
    exact tail6 t ht (by omega)
end Go.Proofs.YtmgdkoidgoihfaaDoor
