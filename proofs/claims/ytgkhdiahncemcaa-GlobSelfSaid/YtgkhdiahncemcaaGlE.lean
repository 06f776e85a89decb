/- Patterns: the tokens that the reference makes of a text. Conditions: as each theorem says. -/
import Derived.Test.YtgkhdiahncemcaaGlD
namespace Go.Proofs.Ytgkhdiahncemcaa
open E Go.Lib
set_option linter.unusedVariables false
set_option linter.unusedSimpArgs false
set_option maxHeartbeats 1000000
set_option maxRecDepth 20000

section
variable {σ σ' : AS} {X : Ce} {R : List Ck} {k : Value → AS → Prop} {s : Str} {q : List Bool} {i e p l : Nat} {c : UInt8} {v vq : Value}
theorem nil_rs : RepL X (.slice none 0 0) ([] : List (UInt8 × UInt8)) := ⟨none, 0, rfl, Nat.le_refl _, Nat.zero_le _, .inl rfl⟩
theorem rparse_c (hq : RepL X vq q) (hs : s.length ≤ 1000000) (h : Hs σ X R) (hk : ∀ X' v σ', Ce.le X X' → RepL X' v (toks s q) → Hs σ' X' R → k v σ') :
    kCall Try.prog 12 [.string (bs s), vq] σ k := by
  have hsm : s.length ≤ maxLen := by unfold maxLen; omega
  refine f12 ?_
  (try simp (maxSteps := 1000000) (dsimp := false) (disch := (first | omega | (simp only [okR]; done) | (simp only [sizeR] <;> omega) | fail)) only [↓preR, postR, ↓w_stop, Nat.reduceEqDiff, Nat.reduceAdd, Nat.reduceSub, Nat.reduceMul, Int.reduceNeg, Nat.reduceLT, Int.reduceToNat, Nat.reduceLeDiff, Nat.sub_zero, F12])
  refine join_now ?_
  refine loop_inv (fun nn xs s1 => ∃ (j : Nat) (pre : List Tok) (X1 : Ce) (ov : Value), xs = [ov, .int .i64 j] ∧ Ce.le X X1 ∧ pre ++ toksA s q j = toks s q ∧ j ≤ s.length ∧ Hs s1 X1 (E.Own ov pre :: R) ∧ nn = s.length - j) _ ⟨0, [], X, _, rfl, Ce.le_refl _, rfl, Nat.zero_le _, h.own0, rfl⟩ ?_
  clear h
  rintro _ _ s1 again ⟨j, pre, X1, ov, rfl, hx, hpre, hj, h1, rfl⟩ hag
  by_cases hlt : j < s.length
  · rw [toksA_eq, if_pos hlt] at hpre
    have hpl : pre.length < s.length := by
      have a1 := congrArg List.length hpre
      have a2 := toksA_len (s := s) (q := q) (i := 0)
      have a3 : (toks s q).length ≤ s.length := by unfold toks; omega
      simp only [List.length_append, List.length_cons] at a1
      omega
    have hq1 : RepL X1 vq q := hq.mono hx
    have hgt := tokAt_gt (s := s) (q := q) (i := j)
    have hle := tokAt_le (s := s) (q := q) hlt
    -- a token more
    have next : ∀ s3 X3 ov' t nx, Ce.le X1 X3 → Hs s3 X3 (E.Own ov' (pre ++ [t]) :: R) → (t, nx) = tokAt s q j → again [ov', .int .i64 (nx : Nat)] s3 := by
      intro s3 X3 ov' t nx hx3 h3 ht
      refine hag _ _ _ ⟨nx, pre ++ [t], X3, ov', rfl, Ce.le_trans hx hx3, ?_, ?_, h3, rfl⟩ ?_
      · rw [← hpre, ← ht]; simp
      · rw [← ht] at hle; exact hle
      · rw [← ht] at hgt; show s.length - nx < s.length - j; have : j < nx := hgt; omega
    clear hag
    (try simp (maxSteps := 1000000) (dsimp := false) (disch := (first | omega | (simp only [okR]; done) | (simp only [sizeR] <;> omega) | fail)) only [↓preR, postR, ↓w_stop, Nat.reduceEqDiff, Nat.reduceAdd, Nat.reduceSub, Nat.reduceMul, Int.reduceNeg, Nat.reduceLT, Int.reduceToNat, Nat.reduceLeDiff, Nat.sub_zero])
    refine join_now ?_
    (try simp (maxSteps := 1000000) (dsimp := false) (disch := (first | omega | (simp only [okR]; done) | (simp only [sizeR] <;> omega) | fail)) only [↓preR, postR, ↓w_stop, Nat.reduceEqDiff, Nat.reduceAdd, Nat.reduceSub, Nat.reduceMul, Int.reduceNeg, Nat.reduceLT, Int.reduceToNat, Nat.reduceLeDiff, Nat.sub_zero])
    refine join_by fun J4 hJ4 => ?_
    have t4 : isP s q j 63 = false → ∀ s2, Hs s2 X1 (E.Own ov pre :: R) → J4 [ov, .int .i64 j] s2 := by
      intro p1 s2 h2
      refine hJ4 _ _ ?_
      clear hJ4 J4
      (try simp (maxSteps := 1000000) (dsimp := false) (disch := (first | omega | (simp only [okR]; done) | (simp only [sizeR] <;> omega) | fail)) only [↓preR, postR, ↓w_stop, Nat.reduceEqDiff, Nat.reduceAdd, Nat.reduceSub, Nat.reduceMul, Int.reduceNeg, Nat.reduceLT, Int.reduceToNat, Nat.reduceLeDiff, Nat.sub_zero])
      refine join_by fun J5 hJ5 => ?_
      have t5 : isP s q j 42 = false → ∀ s3, Hs s3 X1 (E.Own ov pre :: R) → J5 [ov, .int .i64 j] s3 := by
        intro p2 s3 h3
        refine hJ5 _ _ ?_
        clear hJ5 J5
        (try simp (maxSteps := 1000000) (dsimp := false) (disch := (first | omega | (simp only [okR]; done) | (simp only [sizeR] <;> omega) | fail)) only [↓preR, postR, ↓w_stop, Nat.reduceEqDiff, Nat.reduceAdd, Nat.reduceSub, Nat.reduceMul, Int.reduceNeg, Nat.reduceLT, Int.reduceToNat, Nat.reduceLeDiff, Nat.sub_zero])
        refine is_c (i := j + 1) (c := 33) (by omega) rfl hq1 hsm h3 ?_
        (try simp (maxSteps := 1000000) (dsimp := false) (disch := (first | omega | (simp only [okR]; done) | (simp only [sizeR] <;> omega) | fail)) only [↓preR, postR, ↓w_stop, Nat.reduceEqDiff, Nat.reduceAdd, Nat.reduceSub, Nat.reduceMul, Int.reduceNeg, Nat.reduceLT, Int.reduceToNat, Nat.reduceLeDiff, Nat.sub_zero])
        refine join_by fun J6 hJ6 => ?_
        have t6 : ∀ s4, Hs s4 X1 (E.Own ov pre :: R) → J6 [.int .i64 (first s q j : Nat)] s4 := by
          intro s4 h4
          refine hJ6 _ _ ?_
          clear hJ6 J6
          have hf1 : first s q j ≤ j + 2 := by unfold first; split <;> omega
          (try simp (maxSteps := 1000000) (dsimp := false) (disch := (first | omega | (simp only [okR]; done) | (simp only [sizeR] <;> omega) | fail)) only [↓preR, postR, ↓w_stop, Nat.reduceEqDiff, Nat.reduceAdd, Nat.reduceSub, Nat.reduceMul, Int.reduceNeg, Nat.reduceLT, Int.reduceToNat, Nat.reduceLeDiff, Nat.sub_zero])
          refine join_by fun J7 hJ7 => ?_
          have t7 : ∀ s5, Hs s5 X1 (E.Own ov pre :: R) → J7 [.int .i64 (clsE s q j : Nat)] s5 := by
            intro s5 h5
            refine hJ7 _ _ ?_
            clear hJ7 J7
            (try simp (maxSteps := 1000000) (dsimp := false) (disch := (first | omega | (simp only [okR]; done) | (simp only [sizeR] <;> omega) | fail)) only [↓preR, postR, ↓w_stop, Nat.reduceEqDiff, Nat.reduceAdd, Nat.reduceSub, Nat.reduceMul, Int.reduceNeg, Nat.reduceLT, Int.reduceToNat, Nat.reduceLeDiff, Nat.sub_zero])
            refine join_by fun J8 hJ8 => ?_
            have t8 : isP s q j 91 = true → clsE s q j < s.length → ∀ s6, Hs s6 X1 (E.Own ov pre :: R) → J8 [ov] s6 := by
              intro p3 hc s6 h6
              refine hJ8 _ _ ?_
              clear hJ8 J8
              have et : tokAt s q j = ((4, 0, isP s q (j + 1) 33, rgs s q (clsE s q j) (first s q j)), clsE s q j + 1) := by unfold tokAt; rw [p1, p2, if_neg (by simp), if_neg (by simp), if_pos ⟨p3, hc⟩]
              have g1 := (h6.new (cs := tokC 0 0 false (.slice none 0 0))).put (cs' := tokC 4 0 (isP s q (j + 1) 33) (.slice none 0 0))
              (try simp (maxSteps := 1000000) (dsimp := false) (disch := (first | omega | (simp only [okR]; done) | (simp only [sizeR] <;> omega) | fail)) only [↓preR, postR, ↓w_stop, Nat.reduceEqDiff, Nat.reduceAdd, Nat.reduceSub, Nat.reduceMul, Int.reduceNeg, Nat.reduceLT, Int.reduceToNat, Nat.reduceLeDiff, Nat.sub_zero])
              generalize s6.n = pt at g1 ⊢
              generalize AS.put _ pt _ = s7 at g1 ⊢
              refine join_by fun J9 hJ9 => ?_
              have t9 : ∀ s8 u, Hs s8 X1 (E.Own u (rgs s q (clsE s q j) (first s q j)) :: Cel pt (tokC 4 0 (isP s q (j + 1) 33) u) :: E.Own ov pre :: R) → J9 [] s8 := by
                intro s8 u h8
                refine hJ9 _ _ ?_
                obtain ⟨x, c, hu, _⟩ := h8.own
                obtain ⟨X', hx', hr, h9⟩ := h8.keep
                subst hu
                (simp (maxSteps := 1000000) (dsimp := false) (disch := (first | omega | (simp only [okR]; done) | (simp only [sizeR] <;> omega) | fail)) only [↓preR, postR, ↓w_join, Nat.reduceEqDiff, Nat.reduceAdd, Nat.reduceSub, Nat.reduceMul, Int.reduceNeg, Nat.reduceLT, Int.reduceToNat, Nat.reduceLeDiff, Nat.sub_zero, h9.obj])
                refine push_by h9.drop (e := 42) (bytes := 40) (by kernel_rfl) (by kernel_rfl) (tok_rp (t := (4, 0, isP s q (j + 1) 33, rgs s q (clsE s q j) (first s q j))) (by unfold inI64; simp) hr) (by omega) (by unfold maxLen; omega) fun v' s9 g9 => ?_
                (simp (maxSteps := 1000000) (dsimp := false) (disch := (first | omega | (simp only [okR]; done) | (simp only [sizeR] <;> omega) | fail)) only [↓preR, postR, ↓w_join, Nat.reduceEqDiff, Nat.reduceAdd, Nat.reduceSub, Nat.reduceMul, Int.reduceNeg, Nat.reduceLT, Int.reduceToNat, Nat.reduceLeDiff, Nat.sub_zero])
                exact next _ _ _ _ (clsE s q j + 1) hx' g9 et.symm
              clear hJ9 next
              refine loop_inv (fun nn xs s4 => ∃ (m : Nat) (u : Value) (pr : List (UInt8 × UInt8)), xs = [.int .i64 m] ∧ first s q j ≤ m ∧ pr ++ rgs s q (clsE s q j) m = rgs s q (clsE s q j) (first s q j) ∧
                Hs s4 X1 (E.Own u pr :: Cel pt (tokC 4 0 (isP s q (j + 1) 33) u) :: E.Own ov pre :: R) ∧ nn = clsE s q j - m) _ ⟨_, _, [], rfl, Nat.le_refl _, rfl, g1.own0, rfl⟩ ?_
              clear g1 h1 h2 h3 h4 h5 h6
              rintro _ _ s4 again ⟨m, u, pr, rfl, hj, hpr, h4, rfl⟩ hag
              obtain ⟨x, cp, hu, hcp⟩ := h4.own
              have hlen : pr.length ≤ 1000000 := by
                have h1 := congrArg List.length hpr
                have h2 := rgs_len (s := s) (q := q) (e := clsE s q j) (i := first s q j)
                rw [List.length_append] at h1
                omega
              by_cases hlt : m < clsE s q j
              · have e0 : s[m]?.getD 0 = byt s m := rfl
                have e2 : s[m + 2]?.getD 0 = byt s (m + 2) := rfl
                have hp5 : pt < s4.n := h4.drop.lt
                rw [rgs_eq, if_pos hlt] at hpr
                by_cases h22 : m + 2 < clsE s q j ∧ isP s q (m + 1) 45 = true
                · rw [if_pos h22] at hpr
                  obtain ⟨h22, hp⟩ := h22
                  (simp (maxSteps := 1000000) (dsimp := false) (disch := (first | omega | (simp only [okR]; done) | (simp only [sizeR] <;> omega) | fail)) only [↓preR, postR, ↓w_join, Nat.reduceEqDiff, Nat.reduceAdd, Nat.reduceSub, Nat.reduceMul, Int.reduceNeg, Nat.reduceLT, Int.reduceToNat, Nat.reduceLeDiff, Nat.sub_zero])
                  refine is_c (i := m + 1) (c := 45) (by omega) rfl hq1 hsm h4 ?_
                  rw [hp]
                  (simp (maxSteps := 1000000) (dsimp := false) (disch := (first | omega | (simp only [okR]; done) | (simp only [sizeR] <;> omega) | fail)) only [↓preR, postR, ↓w_join, Nat.reduceEqDiff, Nat.reduceAdd, Nat.reduceSub, Nat.reduceMul, Int.reduceNeg, Nat.reduceLT, Int.reduceToNat, Nat.reduceLeDiff, Nat.sub_zero, h4.obj1, e0, e2])
                  refine push_by h4 (e := 44) (bytes := 2) (by kernel_rfl) (by kernel_rfl) (rng_rp (byt s m) (byt s (m + 2))) (by omega) (by unfold maxLen; omega) fun u' s6 h6 => ?_
                  have h7 := h6.put1 (cs' := tokC 4 0 (isP s q (j + 1) 33) u')
                  obtain ⟨x', c', hu', _⟩ := h6.own
                  subst hu'
                  (simp (maxSteps := 1000000) (dsimp := false) (disch := (first | omega | (simp only [okR]; done) | (simp only [sizeR] <;> omega) | fail)) only [↓preR, postR, ↓w_join, Nat.reduceEqDiff, Nat.reduceAdd, Nat.reduceSub, Nat.reduceMul, Int.reduceNeg, Nat.reduceLT, Int.reduceToNat, Nat.reduceLeDiff, Nat.sub_zero, h6.obj1])
                  exact hag _ _ _ ⟨m + 3, _, pr ++ [(byt s m, byt s (m + 2))], by simp, by omega, by rw [← hpr]; simp, h7, rfl⟩ (by omega)
                · rw [if_neg h22] at hpr
                  have fin : ∀ (s6 : AS) (u' : Value), Hs s6 X1 (E.Own u' (pr ++ [(byt s m, byt s m)]) :: Cel pt (tokC 4 0 (isP s q (j + 1) 33) u') :: E.Own ov pre :: R) → again [.int .i64 ((m : Int) + 1)] s6 := fun s6 u' h7 =>
                    hag _ _ _ ⟨m + 1, _, pr ++ [(byt s m, byt s m)], by simp, by omega, by rw [← hpr]; simp, h7, rfl⟩ (by omega)
                  by_cases h23 : m + 2 < clsE s q j
                  · have hp : isP s q (m + 1) 45 = false := by
                      cases hx : isP s q (m + 1) 45
                      · rfl
                      · exact absurd ⟨h23, hx⟩ h22
                    (simp (maxSteps := 1000000) (dsimp := false) (disch := (first | omega | (simp only [okR]; done) | (simp only [sizeR] <;> omega) | fail)) only [↓preR, postR, ↓w_join, Nat.reduceEqDiff, Nat.reduceAdd, Nat.reduceSub, Nat.reduceMul, Int.reduceNeg, Nat.reduceLT, Int.reduceToNat, Nat.reduceLeDiff, Nat.sub_zero])
                    refine is_c (i := m + 1) (c := 45) (by omega) rfl hq1 hsm h4 ?_
                    rw [hp]
                    (simp (maxSteps := 1000000) (dsimp := false) (disch := (first | omega | (simp only [okR]; done) | (simp only [sizeR] <;> omega) | fail)) only [↓preR, postR, ↓w_join, Nat.reduceEqDiff, Nat.reduceAdd, Nat.reduceSub, Nat.reduceMul, Int.reduceNeg, Nat.reduceLT, Int.reduceToNat, Nat.reduceLeDiff, Nat.sub_zero, h4.obj1, e0, e2])
                    refine push_by h4 (e := 44) (bytes := 2) (by kernel_rfl) (by kernel_rfl) (rng_rp (byt s m) (byt s m)) (by omega) (by unfold maxLen; omega) fun u' s6 h6 => ?_
                    have h7 := h6.put1 (cs' := tokC 4 0 (isP s q (j + 1) 33) u')
                    obtain ⟨x', c', hu', _⟩ := h6.own
                    subst hu'
                    (simp (maxSteps := 1000000) (dsimp := false) (disch := (first | omega | (simp only [okR]; done) | (simp only [sizeR] <;> omega) | fail)) only [↓preR, postR, ↓w_join, Nat.reduceEqDiff, Nat.reduceAdd, Nat.reduceSub, Nat.reduceMul, Int.reduceNeg, Nat.reduceLT, Int.reduceToNat, Nat.reduceLeDiff, Nat.sub_zero, h6.obj1])
                    exact fin _ _ h7
                  · (simp (maxSteps := 1000000) (dsimp := false) (disch := (first | omega | (simp only [okR]; done) | (simp only [sizeR] <;> omega) | fail)) only [↓preR, postR, ↓w_join, Nat.reduceEqDiff, Nat.reduceAdd, Nat.reduceSub, Nat.reduceMul, Int.reduceNeg, Nat.reduceLT, Int.reduceToNat, Nat.reduceLeDiff, Nat.sub_zero, h4.obj1, e0, e2])
                    refine push_by h4 (e := 44) (bytes := 2) (by kernel_rfl) (by kernel_rfl) (rng_rp (byt s m) (byt s m)) (by omega) (by unfold maxLen; omega) fun u' s6 h6 => ?_
                    have h7 := h6.put1 (cs' := tokC 4 0 (isP s q (j + 1) 33) u')
                    obtain ⟨x', c', hu', _⟩ := h6.own
                    subst hu'
                    (simp (maxSteps := 1000000) (dsimp := false) (disch := (first | omega | (simp only [okR]; done) | (simp only [sizeR] <;> omega) | fail)) only [↓preR, postR, ↓w_join, Nat.reduceEqDiff, Nat.reduceAdd, Nat.reduceSub, Nat.reduceMul, Int.reduceNeg, Nat.reduceLT, Int.reduceToNat, Nat.reduceLeDiff, Nat.sub_zero, h6.obj1])
                    exact fin _ _ h7
              · have he : rgs s q (clsE s q j) m = [] := by rw [rgs_eq, if_neg hlt]
                rw [he, List.append_nil] at hpr
                subst hpr
                (simp (maxSteps := 1000000) (dsimp := false) (disch := (first | omega | (simp only [okR]; done) | (simp only [sizeR] <;> omega) | fail)) only [↓preR, postR, ↓w_join, Nat.reduceEqDiff, Nat.reduceAdd, Nat.reduceSub, Nat.reduceMul, Int.reduceNeg, Nat.reduceLT, Int.reduceToNat, Nat.reduceLeDiff, Nat.sub_zero])
                exact t9 s4 u h4
            clear hJ8
            refine is_c (i := j) (c := 91) rfl rfl hq1 hsm h5 ?_
            have byte : ¬ (isP s q j 91 = true ∧ clsE s q j < s.length) → tokAt s q j = ((1, byt s j, false, []), j + 1) := by
              intro hn; unfold tokAt; rw [p1, p2, if_neg (by simp), if_neg (by simp), if_neg hn]
            have e0 : s[j]?.getD 0 = byt s j := rfl
            cases p3 : isP s q j 91 with
            | true =>
              by_cases hc : clsE s q j < s.length
              · (simp (maxSteps := 1000000) (dsimp := false) (disch := (first | omega | (simp only [okR]; done) | (simp only [sizeR] <;> omega) | fail)) only [↓preR, postR, ↓w_join, Nat.reduceEqDiff, Nat.reduceAdd, Nat.reduceSub, Nat.reduceMul, Int.reduceNeg, Nat.reduceLT, Int.reduceToNat, Nat.reduceLeDiff, Nat.sub_zero])
                exact t8 p3 hc s5 h5
              · (simp (maxSteps := 1000000) (dsimp := false) (disch := (first | omega | (simp only [okR]; done) | (simp only [sizeR] <;> omega) | fail)) only [↓preR, postR, ↓w_join, Nat.reduceEqDiff, Nat.reduceAdd, Nat.reduceSub, Nat.reduceMul, Int.reduceNeg, Nat.reduceLT, Int.reduceToNat, Nat.reduceLeDiff, Nat.sub_zero, e0])
                refine push_by h5 (e := 42) (bytes := 40) (by kernel_rfl) (by kernel_rfl) (tok_rp (t := (1, byt s j, false, [])) (by unfold inI64; simp) nil_rs) (by omega) (by unfold maxLen; omega) fun v' s5 g5 => ?_
                (simp (maxSteps := 1000000) (dsimp := false) (disch := (first | omega | (simp only [okR]; done) | (simp only [sizeR] <;> omega) | fail)) only [↓preR, postR, ↓w_join, Nat.reduceEqDiff, Nat.reduceAdd, Nat.reduceSub, Nat.reduceMul, Int.reduceNeg, Nat.reduceLT, Int.reduceToNat, Nat.reduceLeDiff, Nat.sub_zero])
                exact next _ _ _ (1, byt s j, false, []) (j + 1) (Ce.le_refl _) g5 (byte (fun h => hc h.2)).symm
            | false =>
              (simp (maxSteps := 1000000) (dsimp := false) (disch := (first | omega | (simp only [okR]; done) | (simp only [sizeR] <;> omega) | fail)) only [↓preR, postR, ↓w_join, Nat.reduceEqDiff, Nat.reduceAdd, Nat.reduceSub, Nat.reduceMul, Int.reduceNeg, Nat.reduceLT, Int.reduceToNat, Nat.reduceLeDiff, Nat.sub_zero, e0])
              refine push_by h5 (e := 42) (bytes := 40) (by kernel_rfl) (by kernel_rfl) (tok_rp (t := (1, byt s j, false, [])) (by unfold inI64; simp) nil_rs) (by omega) (by unfold maxLen; omega) fun v' s5 g5 => ?_
              (simp (maxSteps := 1000000) (dsimp := false) (disch := (first | omega | (simp only [okR]; done) | (simp only [sizeR] <;> omega) | fail)) only [↓preR, postR, ↓w_join, Nat.reduceEqDiff, Nat.reduceAdd, Nat.reduceSub, Nat.reduceMul, Int.reduceNeg, Nat.reduceLT, Int.reduceToNat, Nat.reduceLeDiff, Nat.sub_zero])
              exact next _ _ _ (1, byt s j, false, []) (j + 1) (Ce.le_refl _) g5 (byte (by rw [p3]; simp)).symm
          clear hJ7
          refine loop_inv (fun nn xs s3 => ∃ e : Nat, xs = [.int .i64 e] ∧ endAt s q e = clsE s q j ∧ e ≤ s.length + 2 ∧ Hs s3 X1 (E.Own ov pre :: R) ∧ nn = s.length + 2 - e) _ ⟨first s q j + 1, by simp, rfl, by omega, h4, rfl⟩ ?_
          rintro _ _ s5 again ⟨e, rfl, he, hel, h5, rfl⟩ hag
          rw [endAt_eq] at he
          by_cases hlt : e < s.length
          · (simp (maxSteps := 1000000) (dsimp := false) (disch := (first | omega | (simp only [okR]; done) | (simp only [sizeR] <;> omega) | fail)) only [↓preR, postR, ↓w_join, Nat.reduceEqDiff, Nat.reduceAdd, Nat.reduceSub, Nat.reduceMul, Int.reduceNeg, Nat.reduceLT, Int.reduceToNat, Nat.reduceLeDiff, Nat.sub_zero])
            refine is_c (i := e) (c := 93) rfl rfl hq1 hsm h5 ?_
            cases hp : isP s q e 93 with
            | true =>
              rw [if_neg (by simp [hp])] at he
              (simp (maxSteps := 1000000) (dsimp := false) (disch := (first | omega | (simp only [okR]; done) | (simp only [sizeR] <;> omega) | fail)) only [↓preR, postR, ↓w_join, Nat.reduceEqDiff, Nat.reduceAdd, Nat.reduceSub, Nat.reduceMul, Int.reduceNeg, Nat.reduceLT, Int.reduceToNat, Nat.reduceLeDiff, Nat.sub_zero])
              rw [he]
              exact t7 s5 h5
            | false =>
              rw [if_pos ⟨hlt, hp⟩] at he
              (simp (maxSteps := 1000000) (dsimp := false) (disch := (first | omega | (simp only [okR]; done) | (simp only [sizeR] <;> omega) | fail)) only [↓preR, postR, ↓w_join, Nat.reduceEqDiff, Nat.reduceAdd, Nat.reduceSub, Nat.reduceMul, Int.reduceNeg, Nat.reduceLT, Int.reduceToNat, Nat.reduceLeDiff, Nat.sub_zero])
              exact hag _ _ _ ⟨e + 1, by simp, he, by omega, h5, rfl⟩ (by omega)
          · rw [if_neg (by omega)] at he
            (simp (maxSteps := 1000000) (dsimp := false) (disch := (first | omega | (simp only [okR]; done) | (simp only [sizeR] <;> omega) | fail)) only [↓preR, postR, ↓w_join, Nat.reduceEqDiff, Nat.reduceAdd, Nat.reduceSub, Nat.reduceMul, Int.reduceNeg, Nat.reduceLT, Int.reduceToNat, Nat.reduceLeDiff, Nat.sub_zero])
            rw [he]
            exact t7 s5 h5
        clear hJ6
        unfold first at t6
        cases hp : isP s q (j + 1) 33 with
        | true =>
          rw [hp] at t6
          (simp (maxSteps := 1000000) (dsimp := false) (disch := (first | omega | (simp only [okR]; done) | (simp only [sizeR] <;> omega) | fail)) only [↓preR, postR, ↓w_join, Nat.reduceEqDiff, Nat.reduceAdd, Nat.reduceSub, Nat.reduceMul, Int.reduceNeg, Nat.reduceLT, Int.reduceToNat, Nat.reduceLeDiff, Nat.sub_zero])
          have := t6 _ h3
          simp only [if_true] at this
          rw [show ((j : Int) + 1 + 1) = ((j + 2 : Nat) : Int) from by omega]
          exact this
        | false =>
          rw [hp] at t6
          (simp (maxSteps := 1000000) (dsimp := false) (disch := (first | omega | (simp only [okR]; done) | (simp only [sizeR] <;> omega) | fail)) only [↓preR, postR, ↓w_join, Nat.reduceEqDiff, Nat.reduceAdd, Nat.reduceSub, Nat.reduceMul, Int.reduceNeg, Nat.reduceLT, Int.reduceToNat, Nat.reduceLeDiff, Nat.sub_zero])
          have := t6 _ h3
          simp only [Bool.false_eq_true, if_false] at this
          exact this
      clear hJ5
      refine is_c (i := j) (c := 42) rfl rfl hq1 hsm h2 ?_
      cases p2 : isP s q j 42 with
      | true =>
        (simp (maxSteps := 1000000) (dsimp := false) (disch := (first | omega | (simp only [okR]; done) | (simp only [sizeR] <;> omega) | fail)) only [↓preR, postR, ↓w_join, Nat.reduceEqDiff, Nat.reduceAdd, Nat.reduceSub, Nat.reduceMul, Int.reduceNeg, Nat.reduceLT, Int.reduceToNat, Nat.reduceLeDiff, Nat.sub_zero])
        refine push_by h2 (e := 42) (bytes := 40) (by kernel_rfl) (by kernel_rfl) (tok_rp (t := (3, 0, false, [])) (by unfold inI64; simp) nil_rs) (by omega) (by unfold maxLen; omega) fun v' s5 g5 => ?_
        (simp (maxSteps := 1000000) (dsimp := false) (disch := (first | omega | (simp only [okR]; done) | (simp only [sizeR] <;> omega) | fail)) only [↓preR, postR, ↓w_join, Nat.reduceEqDiff, Nat.reduceAdd, Nat.reduceSub, Nat.reduceMul, Int.reduceNeg, Nat.reduceLT, Int.reduceToNat, Nat.reduceLeDiff, Nat.sub_zero])
        exact next _ _ _ (3, 0, false, []) (j + 1) (Ce.le_refl _) g5 (by unfold tokAt; rw [p1, p2]; simp)
      | false =>
        (simp (maxSteps := 1000000) (dsimp := false) (disch := (first | omega | (simp only [okR]; done) | (simp only [sizeR] <;> omega) | fail)) only [↓preR, postR, ↓w_join, Nat.reduceEqDiff, Nat.reduceAdd, Nat.reduceSub, Nat.reduceMul, Int.reduceNeg, Nat.reduceLT, Int.reduceToNat, Nat.reduceLeDiff, Nat.sub_zero])
        exact t5 p2 s2 h2
    clear hJ4
    refine is_c (i := j) (c := 63) rfl rfl hq1 hsm h1 ?_
    cases p1 : isP s q j 63 with
    | true =>
      (simp (maxSteps := 1000000) (dsimp := false) (disch := (first | omega | (simp only [okR]; done) | (simp only [sizeR] <;> omega) | fail)) only [↓preR, postR, ↓w_join, Nat.reduceEqDiff, Nat.reduceAdd, Nat.reduceSub, Nat.reduceMul, Int.reduceNeg, Nat.reduceLT, Int.reduceToNat, Nat.reduceLeDiff, Nat.sub_zero])
      refine push_by h1 (e := 42) (bytes := 40) (by kernel_rfl) (by kernel_rfl) (tok_rp (t := (2, 0, false, [])) (by unfold inI64; simp) nil_rs) (by omega) (by unfold maxLen; omega) fun v' s5 g5 => ?_
      (simp (maxSteps := 1000000) (dsimp := false) (disch := (first | omega | (simp only [okR]; done) | (simp only [sizeR] <;> omega) | fail)) only [↓preR, postR, ↓w_join, Nat.reduceEqDiff, Nat.reduceAdd, Nat.reduceSub, Nat.reduceMul, Int.reduceNeg, Nat.reduceLT, Int.reduceToNat, Nat.reduceLeDiff, Nat.sub_zero])
      exact next _ _ _ (2, 0, false, []) (j + 1) (Ce.le_refl _) g5 (by unfold tokAt; rw [p1]; simp)
    | false =>
      (simp (maxSteps := 1000000) (dsimp := false) (disch := (first | omega | (simp only [okR]; done) | (simp only [sizeR] <;> omega) | fail)) only [↓preR, postR, ↓w_join, Nat.reduceEqDiff, Nat.reduceAdd, Nat.reduceSub, Nat.reduceMul, Int.reduceNeg, Nat.reduceLT, Int.reduceToNat, Nat.reduceLeDiff, Nat.sub_zero])
      exact t4 p1 s1 h1
  · rw [toksA_eq, if_neg hlt, List.append_nil] at hpre
    subst hpre
    (simp (maxSteps := 1000000) (dsimp := false) (disch := (first | omega | (simp only [okR]; done) | (simp only [sizeR] <;> omega) | fail)) only [↓preR, postR, ↓w_join, Nat.reduceEqDiff, Nat.reduceAdd, Nat.reduceSub, Nat.reduceMul, Int.reduceNeg, Nat.reduceLT, Int.reduceToNat, Nat.reduceLeDiff, Nat.sub_zero])
    obtain ⟨X', hx', hr, h2⟩ := h1.keep
    exact hk _ _ _ (Ce.le_trans hx hx') hr h2
end
end Go.Proofs.Ytgkhdiahncemcaa
