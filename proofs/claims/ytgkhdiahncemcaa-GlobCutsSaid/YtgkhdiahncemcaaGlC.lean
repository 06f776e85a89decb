/- Patterns: a class, as the program reads it. Conditions: as each theorem says. -/
import Derived.Test.YtgkhdiahncemcaaGlB
namespace Go.Proofs.Ytgkhdiahncemcaa
open E Go.Lib
set_option linter.unusedVariables false
set_option linter.unusedSimpArgs false
set_option maxHeartbeats 1000000
set_option maxRecDepth 20000

section
variable {σ σ' : AS} {X : Ce} {R : List Ck} {k : Value → AS → Prop} {s : Str} {q : List Bool} {i e p : Nat} {c : UInt8} {v vq : Value}
/-- The cells of a token. -/
abbrev tokC (kd : Int) (b : Int) (nt : Bool) (u : Value) : List Value := [.int .i64 kd, .int .u8 b, .bool nt, u]
theorem byt_of (h : i < s.length) : s[i]?.getD 0 = byt s i := rfl
theorem rng_rp (a b : UInt8) : Rp.rp X (a, b) [.int .u8 a.toNat, .int .u8 b.toNat] := ⟨[_], [_], rfl, rfl, rfl⟩
theorem class_c (hq : RepL X vq q) (hs : s.length ≤ 1000000) (hi : i < s.length) (h : Hs σ X R)
    (hf : ¬ clsE s q i < s.length → ∀ σ', Hs σ' X R → k (.tuple #[.agg (tokC 0 0 false (.slice none 0 0)).toArray, .int .i64 0, .bool false]) σ')
    (hk : clsE s q i < s.length → ∀ X' u σ', Ce.le X X' → RepL X' u (rgs s q (clsE s q i) (first s q i)) → Hs σ' X' R → k (.tuple #[.agg (tokC 4 0 (isP s q (i + 1) 33) u).toArray, .int .i64 (clsE s q i + 1 : Nat), .bool true]) σ') :
    kCall Try.prog 31 [.agg [.string (bs s), vq].toArray, .int .i64 i] σ k := by
  have hsm : s.length ≤ maxLen := by unfold maxLen; omega
  have z0 : ((0 : UInt8).toNat : Int) = 0 := rfl
  refine f31 ?_
  have h1 := (((h.new (cs := [.string (bs s), vq])).new (cs := tokC 0 0 false (.slice none 0 0))).new (cs := tokC 0 0 false (.slice none 0 0))).put (cs' := tokC 4 0 false (.slice none 0 0))
  (try simp (maxSteps := 1000000) (dsimp := false) (disch := (first | omega | (simp only [okR]; done) | (simp only [sizeR] <;> omega) | fail)) only [↓preR, postR, ↓w_stop, Nat.reduceEqDiff, Nat.reduceAdd, Nat.reduceSub, Nat.reduceMul, Int.reduceNeg, Nat.reduceLT, Int.reduceToNat, Nat.reduceLeDiff, Nat.sub_zero, F31, h.new.obj])
  simp only [new_n] at h1 ⊢
  generalize AS.put _ (σ.n + 1 + 1) _ = s1 at h1 ⊢
  generalize σ.n + 1 + 1 = pt at h1 ⊢
  generalize σ.n + 1 = pv at h1 ⊢
  generalize σ.n = pq at h1 ⊢
  refine join_by fun J hJ => ?_
  have tail : ∀ s2, Hs s2 X (Cel pt (tokC 4 0 (isP s q (i + 1) 33) (.slice none 0 0)) :: Cel pv (tokC 0 0 false (.slice none 0 0)) :: Cel pq [.string (bs s), vq] :: R) → J [.int .i64 (first s q i : Nat)] s2 := by
    intro s2 h2
    refine hJ _ _ ?_
    clear hJ J h1 s1
    have hf1 : first s q i ≤ i + 2 := by unfold first; split <;> omega
    (try simp (maxSteps := 1000000) (dsimp := false) (disch := (first | omega | (simp only [okR]; done) | (simp only [sizeR] <;> omega) | fail)) only [↓preR, postR, ↓w_stop, Nat.reduceEqDiff, Nat.reduceAdd, Nat.reduceSub, Nat.reduceMul, Int.reduceNeg, Nat.reduceLT, Int.reduceToNat, Nat.reduceLeDiff, Nat.sub_zero, h2.obj2])
    refine join_by fun J2 hJ2 => ?_
    -- where the end is known
    have tail2 : ∀ s3, Hs s3 X (Cel pt (tokC 4 0 (isP s q (i + 1) 33) (.slice none 0 0)) :: Cel pv (tokC 0 0 false (.slice none 0 0)) :: Cel pq [.string (bs s), vq] :: R) → J2 [.int .i64 (clsE s q i : Nat)] s3 := by
      intro s3 h3
      refine hJ2 _ _ ?_
      clear hJ2 J2
      by_cases hc : clsE s q i < s.length
      · (try simp (maxSteps := 1000000) (dsimp := false) (disch := (first | omega | (simp only [okR]; done) | (simp only [sizeR] <;> omega) | fail)) only [↓preR, postR, ↓w_stop, Nat.reduceEqDiff, Nat.reduceAdd, Nat.reduceSub, Nat.reduceMul, Int.reduceNeg, Nat.reduceLT, Int.reduceToNat, Nat.reduceLeDiff, Nat.sub_zero, h3.obj2])
        refine join_now ?_
        (try simp (maxSteps := 1000000) (dsimp := false) (disch := (first | omega | (simp only [okR]; done) | (simp only [sizeR] <;> omega) | fail)) only [↓preR, postR, ↓w_stop, Nat.reduceEqDiff, Nat.reduceAdd, Nat.reduceSub, Nat.reduceMul, Int.reduceNeg, Nat.reduceLT, Int.reduceToNat, Nat.reduceLeDiff, Nat.sub_zero, h3.obj2])
        refine join_by fun J3 hJ3 => ?_
        have tail3 : ∀ s4 (u : Value), Hs s4 X (E.Own u (rgs s q (clsE s q i) (first s q i)) :: Cel pt (tokC 4 0 (isP s q (i + 1) 33) u) :: Cel pv (tokC 0 0 false (.slice none 0 0)) :: Cel pq [.string (bs s), vq] :: R) → J3 [] s4 := by
          intro s4 u h4
          refine hJ3 _ _ ?_
          have h5 := h4.put2 (cs' := tokC 4 0 (isP s q (i + 1) 33) u)
          obtain ⟨x, c, hu, _⟩ := h4.own
          subst hu
          (simp (maxSteps := 1000000) (dsimp := false) (disch := (first | omega | (simp only [okR]; done) | (simp only [sizeR] <;> omega) | fail)) only [↓preR, postR, ↓w_join, Nat.reduceEqDiff, Nat.reduceAdd, Nat.reduceSub, Nat.reduceMul, Int.reduceNeg, Nat.reduceLT, Int.reduceToNat, Nat.reduceLeDiff, Nat.sub_zero, h4.obj1, h4.obj2, h5.obj2])
          obtain ⟨X', hx, hr, h6⟩ := h5.keep
          exact hk hc X' _ _ hx hr h6.drop.drop.drop
        clear hJ3
        refine loop_inv (fun nn xs s4 => ∃ (j : Nat) (u : Value) (pre : List (UInt8 × UInt8)), xs = [.int .i64 j] ∧ first s q i ≤ j ∧ pre ++ rgs s q (clsE s q i) j = rgs s q (clsE s q i) (first s q i) ∧
          Hs s4 X (E.Own u pre :: Cel pt (tokC 4 0 (isP s q (i + 1) 33) u) :: Cel pv (tokC 0 0 false (.slice none 0 0)) :: Cel pq [.string (bs s), vq] :: R) ∧ nn = clsE s q i - j) _ ⟨_, _, [], rfl, Nat.le_refl _, rfl, h3.own0, rfl⟩ ?_
        rintro _ _ s4 again ⟨j, u, pre, rfl, hj, hpre, h4, rfl⟩ hag
        obtain ⟨x, cp, hu, hcp⟩ := h4.own
        have hlen : pre.length ≤ 1000000 := by
          have h1 := congrArg List.length hpre
          have h2 := rgs_len (s := s) (q := q) (e := clsE s q i) (i := first s q i)
          rw [List.length_append] at h1
          omega
        by_cases hlt : j < clsE s q i
        · have e0 : s[j]?.getD 0 = byt s j := rfl
          have e2 : s[j + 2]?.getD 0 = byt s (j + 2) := rfl
          rw [rgs_eq, if_pos hlt] at hpre
          (try simp (maxSteps := 1000000) (dsimp := false) (disch := (first | omega | (simp only [okR]; done) | (simp only [sizeR] <;> omega) | fail)) only [↓preR, postR, ↓w_stop, Nat.reduceEqDiff, Nat.reduceAdd, Nat.reduceSub, Nat.reduceMul, Int.reduceNeg, Nat.reduceLT, Int.reduceToNat, Nat.reduceLeDiff, Nat.sub_zero])
          refine join_now ?_
          (try simp (maxSteps := 1000000) (dsimp := false) (disch := (first | omega | (simp only [okR]; done) | (simp only [sizeR] <;> omega) | fail)) only [↓preR, postR, ↓w_stop, Nat.reduceEqDiff, Nat.reduceAdd, Nat.reduceSub, Nat.reduceMul, Int.reduceNeg, Nat.reduceLT, Int.reduceToNat, Nat.reduceLeDiff, Nat.sub_zero])
          refine join_by fun J7 hJ7 => ?_
          have one : ∀ s5, Hs s5 X (E.Own u pre :: Cel pt (tokC 4 0 (isP s q (i + 1) 33) u) :: Cel pv (tokC 0 0 false (.slice none 0 0)) :: Cel pq [.string (bs s), vq] :: R) → (¬ (j + 2 < clsE s q i ∧ isP s q (j + 1) 45 = true)) → J7 [.int .i64 j] s5 := by
            intro s5 h5 hn
            refine hJ7 _ _ ?_
            rw [if_neg hn] at hpre
            have hp5 : pt < s5.n := h5.drop.lt
            (simp (maxSteps := 1000000) (dsimp := false) (disch := (first | omega | (simp only [okR]; done) | (simp only [sizeR] <;> omega) | fail)) only [↓preR, postR, ↓w_join, Nat.reduceEqDiff, Nat.reduceAdd, Nat.reduceSub, Nat.reduceMul, Int.reduceNeg, Nat.reduceLT, Int.reduceToNat, Nat.reduceLeDiff, Nat.sub_zero, h5.obj1, h5.obj3, e0])
            refine push_by h5 (e := 48) (bytes := 2) (by kernel_rfl) (by kernel_rfl) (rng_rp (byt s j) (byt s j)) (by omega) (by unfold maxLen; omega) fun u' s6 h6 => ?_
            have h7 := h6.put1 (cs' := tokC 4 0 (isP s q (i + 1) 33) u')
            obtain ⟨x', c', hu', _⟩ := h6.own
            subst hu'
            (simp (maxSteps := 1000000) (dsimp := false) (disch := (first | omega | (simp only [okR]; done) | (simp only [sizeR] <;> omega) | fail)) only [↓preR, postR, ↓w_join, Nat.reduceEqDiff, Nat.reduceAdd, Nat.reduceSub, Nat.reduceMul, Int.reduceNeg, Nat.reduceLT, Int.reduceToNat, Nat.reduceLeDiff, Nat.sub_zero, h6.obj1])
            exact hag _ _ _ ⟨j + 1, _, pre ++ [(byt s j, byt s j)], by simp, by omega, by rw [← hpre]; simp, h7, rfl⟩ (by omega)
          clear hJ7
          by_cases h22 : j + 2 < clsE s q i
          · (simp (maxSteps := 1000000) (dsimp := false) (disch := (first | omega | (simp only [okR]; done) | (simp only [sizeR] <;> omega) | fail)) only [↓preR, postR, ↓w_join, Nat.reduceEqDiff, Nat.reduceAdd, Nat.reduceSub, Nat.reduceMul, Int.reduceNeg, Nat.reduceLT, Int.reduceToNat, Nat.reduceLeDiff, Nat.sub_zero, h4.obj3])
            refine plain_c (i := j + 1) (c := 45) (by omega) rfl hq hsm h4 fun s5 h5 => ?_
            cases hp : isP s q (j + 1) 45 with
            | true =>
              rw [if_pos ⟨h22, hp⟩] at hpre
              have hp5 : pt < s5.n := h5.drop.lt
              (simp (maxSteps := 1000000) (dsimp := false) (disch := (first | omega | (simp only [okR]; done) | (simp only [sizeR] <;> omega) | fail)) only [↓preR, postR, ↓w_join, Nat.reduceEqDiff, Nat.reduceAdd, Nat.reduceSub, Nat.reduceMul, Int.reduceNeg, Nat.reduceLT, Int.reduceToNat, Nat.reduceLeDiff, Nat.sub_zero, h5.obj1, h5.obj3, e0, e2])
              refine push_by h5 (e := 48) (bytes := 2) (by kernel_rfl) (by kernel_rfl) (rng_rp (byt s j) (byt s (j + 2))) (by omega) (by unfold maxLen; omega) fun u' s6 h6 => ?_
              have h7 := h6.put1 (cs' := tokC 4 0 (isP s q (i + 1) 33) u')
              obtain ⟨x', c', hu', _⟩ := h6.own
              subst hu'
              (simp (maxSteps := 1000000) (dsimp := false) (disch := (first | omega | (simp only [okR]; done) | (simp only [sizeR] <;> omega) | fail)) only [↓preR, postR, ↓w_join, Nat.reduceEqDiff, Nat.reduceAdd, Nat.reduceSub, Nat.reduceMul, Int.reduceNeg, Nat.reduceLT, Int.reduceToNat, Nat.reduceLeDiff, Nat.sub_zero, h6.obj1])
              exact hag _ _ _ ⟨j + 3, _, pre ++ [(byt s j, byt s (j + 2))], by simp, by omega, by rw [← hpre]; simp, h7, rfl⟩ (by omega)
            | false =>
              (simp (maxSteps := 1000000) (dsimp := false) (disch := (first | omega | (simp only [okR]; done) | (simp only [sizeR] <;> omega) | fail)) only [↓preR, postR, ↓w_join, Nat.reduceEqDiff, Nat.reduceAdd, Nat.reduceSub, Nat.reduceMul, Int.reduceNeg, Nat.reduceLT, Int.reduceToNat, Nat.reduceLeDiff, Nat.sub_zero])
              exact one s5 h5 (by rw [hp]; simp)
          · (simp (maxSteps := 1000000) (dsimp := false) (disch := (first | omega | (simp only [okR]; done) | (simp only [sizeR] <;> omega) | fail)) only [↓preR, postR, ↓w_join, Nat.reduceEqDiff, Nat.reduceAdd, Nat.reduceSub, Nat.reduceMul, Int.reduceNeg, Nat.reduceLT, Int.reduceToNat, Nat.reduceLeDiff, Nat.sub_zero])
            exact one s4 h4 (fun h => h22 h.1)
        · have he : rgs s q (clsE s q i) j = [] := by rw [rgs_eq, if_neg hlt]
          rw [he, List.append_nil] at hpre
          subst hpre
          (simp (maxSteps := 1000000) (dsimp := false) (disch := (first | omega | (simp only [okR]; done) | (simp only [sizeR] <;> omega) | fail)) only [↓preR, postR, ↓w_join, Nat.reduceEqDiff, Nat.reduceAdd, Nat.reduceSub, Nat.reduceMul, Int.reduceNeg, Nat.reduceLT, Int.reduceToNat, Nat.reduceLeDiff, Nat.sub_zero])
          exact tail3 s4 u h4
      · have h4 := h3.put1 (cs' := tokC 0 0 false (.slice none 0 0))
        (simp (maxSteps := 1000000) (dsimp := false) (disch := (first | omega | (simp only [okR]; done) | (simp only [sizeR] <;> omega) | fail)) only [↓preR, postR, ↓w_join, Nat.reduceEqDiff, Nat.reduceAdd, Nat.reduceSub, Nat.reduceMul, Int.reduceNeg, Nat.reduceLT, Int.reduceToNat, Nat.reduceLeDiff, Nat.sub_zero, h3.obj1, h3.obj2, h4.obj1])
        exact hf hc _ h4.drop.drop.drop
    clear hJ2
    refine loop_inv (fun nn xs s3 => ∃ e : Nat, xs = [.int .i64 e] ∧ endAt s q e = clsE s q i ∧ e ≤ s.length + 2 ∧ Hs s3 X (Cel pt (tokC 4 0 (isP s q (i + 1) 33) (.slice none 0 0)) :: Cel pv (tokC 0 0 false (.slice none 0 0)) :: Cel pq [.string (bs s), vq] :: R) ∧ nn = s.length + 2 - e) _ ⟨first s q i + 1, by simp, rfl, by omega, h2, rfl⟩ ?_
    rintro _ _ s3 again ⟨e, rfl, he, hel, h3, rfl⟩ hag
    rw [endAt_eq] at he
    by_cases hlt : e < s.length
    · (simp (maxSteps := 1000000) (dsimp := false) (disch := (first | omega | (simp only [okR]; done) | (simp only [sizeR] <;> omega) | fail)) only [↓preR, postR, ↓w_join, Nat.reduceEqDiff, Nat.reduceAdd, Nat.reduceSub, Nat.reduceMul, Int.reduceNeg, Nat.reduceLT, Int.reduceToNat, Nat.reduceLeDiff, Nat.sub_zero, h3.obj2])
      refine plain_c (i := e) (c := 93) rfl rfl hq hsm h3 fun s4 h4 => ?_
      cases hp : isP s q e 93 with
      | true =>
        rw [if_neg (by simp [hp])] at he
        (simp (maxSteps := 1000000) (dsimp := false) (disch := (first | omega | (simp only [okR]; done) | (simp only [sizeR] <;> omega) | fail)) only [↓preR, postR, ↓w_join, Nat.reduceEqDiff, Nat.reduceAdd, Nat.reduceSub, Nat.reduceMul, Int.reduceNeg, Nat.reduceLT, Int.reduceToNat, Nat.reduceLeDiff, Nat.sub_zero])
        rw [he]
        exact tail2 s4 h4
      | false =>
        rw [if_pos ⟨hlt, hp⟩] at he
        (simp (maxSteps := 1000000) (dsimp := false) (disch := (first | omega | (simp only [okR]; done) | (simp only [sizeR] <;> omega) | fail)) only [↓preR, postR, ↓w_join, Nat.reduceEqDiff, Nat.reduceAdd, Nat.reduceSub, Nat.reduceMul, Int.reduceNeg, Nat.reduceLT, Int.reduceToNat, Nat.reduceLeDiff, Nat.sub_zero])
        exact hag _ _ _ ⟨e + 1, by simp, he, by omega, h4, rfl⟩ (by omega)
    · rw [if_neg (by omega)] at he
      (simp (maxSteps := 1000000) (dsimp := false) (disch := (first | omega | (simp only [okR]; done) | (simp only [sizeR] <;> omega) | fail)) only [↓preR, postR, ↓w_join, Nat.reduceEqDiff, Nat.reduceAdd, Nat.reduceSub, Nat.reduceMul, Int.reduceNeg, Nat.reduceLT, Int.reduceToNat, Nat.reduceLeDiff, Nat.sub_zero, h3.obj2])
      rw [he]
      exact tail2 s3 h3
  clear hJ
  (simp (maxSteps := 1000000) (dsimp := false) (disch := (first | omega | (simp only [okR]; done) | (simp only [sizeR] <;> omega) | fail)) only [↓preR, postR, ↓w_join, Nat.reduceEqDiff, Nat.reduceAdd, Nat.reduceSub, Nat.reduceMul, Int.reduceNeg, Nat.reduceLT, Int.reduceToNat, Nat.reduceLeDiff, Nat.sub_zero, h1.obj2])
  refine plain_c (i := i + 1) (c := 33) (by omega) rfl hq hsm h1 fun s2 h2 => ?_
  unfold first at tail
  cases hp : isP s q (i + 1) 33 with
  | true =>
    have h3 := h2.put (cs' := tokC 4 0 true (.slice none 0 0))
    rw [hp] at tail
    (simp (maxSteps := 1000000) (dsimp := false) (disch := (first | omega | (simp only [okR]; done) | (simp only [sizeR] <;> omega) | fail)) only [↓preR, postR, ↓w_join, Nat.reduceEqDiff, Nat.reduceAdd, Nat.reduceSub, Nat.reduceMul, Int.reduceNeg, Nat.reduceLT, Int.reduceToNat, Nat.reduceLeDiff, Nat.sub_zero, h2.obj])
    have := tail _ h3
    simp only [if_true] at this
    rw [show ((i : Int) + 1 + 1) = ((i + 2 : Nat) : Int) from by omega]
    exact this
  | false =>
    rw [hp] at tail
    (simp (maxSteps := 1000000) (dsimp := false) (disch := (first | omega | (simp only [okR]; done) | (simp only [sizeR] <;> omega) | fail)) only [↓preR, postR, ↓w_join, Nat.reduceEqDiff, Nat.reduceAdd, Nat.reduceSub, Nat.reduceMul, Int.reduceNeg, Nat.reduceLT, Int.reduceToNat, Nat.reduceLeDiff, Nat.sub_zero])
    have := tail _ h2
    simp only [Bool.false_eq_true, if_false] at this
    exact this
end
end Go.Proofs.Ytgkhdiahncemcaa
