/- Patterns: the reference's Match, Front, Back. Conditions: as each theorem says. -/
import Derived.Test.YtgkhdiahncemcaaGlI
namespace Go.Proofs.Ytgkhdiahncemcaa
open E Go.Lib
set_option linter.unusedVariables false
set_option linter.unusedSimpArgs false
set_option maxHeartbeats 1000000
set_option maxRecDepth 20000

/-- The reference's row: do these tokens fit the text from a place on? -/
def rowB (l : List Tok) (s : Str) : List Bool := (List.range (s.length + 1)).map fun i => fitB l (s.drop i)
theorem rowB_len (l : List Tok) (s : Str) : (rowB l s).length = s.length + 1 := by simp [rowB]
theorem rowB_get {l : List Tok} {s : Str} {i : Nat} (h : i ≤ s.length) : (rowB l s)[i]?.getD false = fitB l (s.drop i) := by
  unfold rowB
  rw [List.getElem?_map, List.getElem?_range (by omega)]; rfl
theorem fitB_many {t : Tok} {l : List Tok} {s : Str} {i : Nat} (h : t.1 = 3) (hi : i ≤ s.length) : fitB (t :: l) (s.drop i) = (fitB l (s.drop i) || (decide (i < s.length) && fitB (t :: l) (s.drop (i + 1)))) := by
  rw [Bool.eq_iff_iff, Bool.or_eq_true, Bool.and_eq_true, decide_eq_true_eq, fitB_iff, fitB_iff, fitB_iff]
  simp only [Fit, h, if_true, List.length_drop]
  constructor
  · rintro ⟨j, hj, hf⟩
    cases j with
    | zero => exact .inl hf
    | succ j =>
      refine .inr ⟨by omega, j, by omega, ?_⟩
      rw [List.drop_drop] at hf ⊢
      rw [show i + 1 + j = i + (j + 1) from by omega]
      exact hf
  · rintro (hf | ⟨h1, j, hj, hf⟩)
    · exact ⟨0, by omega, hf⟩
    · refine ⟨j + 1, by omega, ?_⟩
      rw [List.drop_drop] at hf ⊢
      rw [show i + (j + 1) = i + 1 + j from by omega]
      exact hf
theorem fitB_one {t : Tok} {l : List Tok} {s : Str} {i : Nat} (h : ¬ t.1 = 3) (hi : i < s.length) : fitB (t :: l) (s.drop i) = (fit1 t s[i] && fitB l (s.drop (i + 1))) := by
  rw [List.drop_eq_getElem_cons hi]
  simp only [fitB, h, if_false]
theorem fitB_end {t : Tok} {l : List Tok} {s : Str} (h : ¬ t.1 = 3) : fitB (t :: l) (s.drop s.length) = false := by
  rw [List.drop_length]
  simp only [fitB, h, if_false]
theorem rowB_nil (s : Str) : rowB [] s = (List.replicate (s.length + 1) false).set s.length true := by
  apply List.ext_getElem?
  intro i
  unfold rowB
  rw [List.getElem?_map, List.getElem?_set]
  by_cases h : i < s.length + 1
  · rw [List.getElem?_range h]
    by_cases e : s.length = i
    · subst e
      simp [fitB]
    · rw [if_neg e, List.getElem?_replicate, if_pos h]
      simp only [Option.map_some, fitB]
      congr 1
      rw [List.isEmpty_eq_false_iff]
      intro he
      have := congrArg List.length he
      simp at this
      omega
  · rw [List.getElem?_eq_none (by simp; omega), if_neg (by omega), List.getElem?_eq_none (by simp; omega)]; rfl
/-- A row, new from a place on. -/
def mixB (nw od : List Bool) (i : Nat) : List Bool := od.take i ++ nw.drop i
section
variable {nw od : List Bool} {i j : Nat}
theorem mixB_len (h : nw.length = od.length) (hi : i ≤ od.length) : (mixB nw od i).length = od.length := by simp [mixB]; omega
theorem mixB_new (h : nw.length = od.length) (hi : i ≤ j) (hj : i ≤ od.length) : (mixB nw od i)[j]?.getD false = nw[j]?.getD false := mix_old (nw := od) (od := nw) h.symm hi (by omega)
theorem mixB_set (h : nw.length = od.length) (hi : i < od.length) : (mixB nw od (i + 1)).set i (nw[i]?.getD false) = mixB nw od i := by
  unfold mixB
  rw [List.take_succ_eq_append_getElem hi, List.append_assoc, List.set_append_right _ _ (by rw [List.length_take]; omega), List.length_take, Nat.min_eq_left (by omega), Nat.sub_self, List.singleton_append, List.set_cons_zero, List.getElem?_eq_getElem (by omega : i < nw.length), Option.getD_some]
  rw [List.drop_eq_getElem_cons (by omega : i < nw.length)]
theorem mixB_all : mixB nw od 0 = nw := by simp [mixB]
theorem mixB_zero (h : nw.length = od.length) : mixB nw od od.length = od := by
  unfold mixB
  rw [List.take_length, List.drop_eq_nil_of_le (by omega), List.append_nil]
end
section
variable {σ σ' : AS} {X : Ce} {R : List Ck} {k : Value → AS → Prop} {l a b : List Tok} {u v va vb : Value} {c b1 : UInt8} {kd : Int} {nt : Bool} {p : Nat} {rs : List (UInt8 × UInt8)} {s : Str} {longest : Bool}
theorem rmatch_c (hl : RepL X v l) (hs : s.length ≤ 1000000) (h : Hs σ X R) (hk : ∀ σ', Hs σ' X R → k (.bool (matchL l s)) σ') : kCall Try.prog 16 [v, .string (bs s)] σ k := by
  obtain ⟨a1, ab, ao, acap, rfl, hac, ham, aat⟩ := tok_at hl
  unfold maxLen at ham
  refine f16 ?_
  have h1 := (h.new (cs := rowV (List.replicate (s.length + 1) false))).put (cs' := rowV (rowB [] s))
  have hl0 : (rowV (List.replicate (s.length + 1) false)).length = s.length + 1 := by rw [rowV_len, List.length_replicate]
  have hst : (rowV (List.replicate (s.length + 1) false)).set s.length (.bool true) = rowV (rowB [] s) := by rw [rowV_set, rowB_nil]
  (try simp (maxSteps := 1000000) (dsimp := false) (disch := (first | omega | (simp only [okR]; done) | (simp only [sizeR] <;> omega) | fail)) only [↓preR, postR, ↓w_stop, Nat.reduceEqDiff, Nat.reduceAdd, Nat.reduceSub, Nat.reduceMul, Int.reduceNeg, Nat.reduceLT, Int.reduceToNat, Nat.reduceLeDiff, Nat.sub_zero, F16, ↓mks_row hs, hl0, hst])
  refine join_now ?_
  (try simp (maxSteps := 1000000) (dsimp := false) (disch := (first | omega | (simp only [okR]; done) | (simp only [sizeR] <;> omega) | fail)) only [↓preR, postR, ↓w_stop, Nat.reduceEqDiff, Nat.reduceAdd, Nat.reduceSub, Nat.reduceMul, Int.reduceNeg, Nat.reduceLT, Int.reduceToNat, Nat.reduceLeDiff, Nat.sub_zero])
  generalize σ.n = p0 at h1 ⊢
  generalize AS.put _ p0 _ = s0 at h1 ⊢
  refine loop_inv (fun nn xs s1 => ∃ (j p : Nat), xs = [rowS p (s.length + 1), .int .i64 ((j : Int) - 1)] ∧ Hs s1 X (Cel p (rowV (rowB (l.drop j) s)) :: R) ∧ j ≤ l.length ∧ nn = j) _ ⟨l.length, p0, rfl, by rw [List.drop_length]; exact h1, Nat.le_refl _, rfl⟩ ?_
  clear h1
  rintro j _ s1 again ⟨j0, p, rfl, h1, hj, hn⟩ hag
  subst hn
  cases j with
  | zero =>
    have c1 := rowV_get (l := rowB l s) (i := 0) (by rw [rowB_len]; omega)
    rw [rowB_get (Nat.zero_le _), List.drop_zero, ← matchL_eq] at c1
    rw [List.drop_zero] at h1
    have e0 : (((0 : Nat) : Int) - 1) = -1 := rfl
    rw [e0]
    (simp (maxSteps := 1000000) (dsimp := false) (disch := (first | omega | (simp only [okR]; done) | (simp only [sizeR] <;> omega) | fail)) only [↓preR, postR, ↓w_join, Nat.reduceEqDiff, Nat.reduceAdd, Nat.reduceSub, Nat.reduceMul, Int.reduceNeg, Nat.reduceLT, Int.reduceToNat, Nat.reduceLeDiff, Nat.sub_zero, h1.obj, c1])
    exact hk _ h1.drop
  | succ j =>
    rw [show (((j + 1 : Nat) : Int) - 1) = (j : Int) from by omega]
    have hlt : j < l.length := by omega
    obtain ⟨rfl, u, hkd, hu, c0, c1, c2, c3⟩ := aat j hlt
    obtain ⟨ra, rcap, hu', _⟩ := hu.val
    subst hu'
    have g0 := h1.ldx c0
    have next : ∀ s2 p2, Hs s2 X (Cel p2 (rowV (rowB (l[j] :: l.drop (j + 1)) s)) :: R) → again [rowS p2 (s.length + 1), .int .i64 ((j : Int) - 1)] s2 := by
      intro s2 p2 h2
      refine hag _ _ _ ⟨j, p2, rfl, ?_, by omega, rfl⟩ (by omega)
      rw [List.drop_eq_getElem_cons hlt]
      exact h2
    clear hag
    have hrl := rowB_len (l.drop (j + 1)) s
    have h2 := h1.new (cs := rowV (List.replicate (s.length + 1) false))
    (try simp (maxSteps := 1000000) (dsimp := false) (disch := (first | omega | (simp only [okR]; done) | (simp only [sizeR] <;> omega) | fail)) only [↓preR, postR, ↓w_stop, Nat.reduceEqDiff, Nat.reduceAdd, Nat.reduceSub, Nat.reduceMul, Int.reduceNeg, Nat.reduceLT, Int.reduceToNat, Nat.reduceLeDiff, Nat.sub_zero, g0, ↓mks_row hs])
    refine join_now ?_
    (try simp (maxSteps := 1000000) (dsimp := false) (disch := (first | omega | (simp only [okR]; done) | (simp only [sizeR] <;> omega) | fail)) only [↓preR, postR, ↓w_stop, Nat.reduceEqDiff, Nat.reduceAdd, Nat.reduceSub, Nat.reduceMul, Int.reduceNeg, Nat.reduceLT, Int.reduceToNat, Nat.reduceLeDiff, Nat.sub_zero, g0, ↓mks_row hs])
    refine join_now ?_
    (try simp (maxSteps := 1000000) (dsimp := false) (disch := (first | omega | (simp only [okR]; done) | (simp only [sizeR] <;> omega) | fail)) only [↓preR, postR, ↓w_stop, Nat.reduceEqDiff, Nat.reduceAdd, Nat.reduceSub, Nat.reduceMul, Int.reduceNeg, Nat.reduceLT, Int.reduceToNat, Nat.reduceLeDiff, Nat.sub_zero, g0, ↓mks_row hs])
    generalize AS.new _ (Ob.cells (rowV (List.replicate (s.length + 1) false))) = s2 at h2 ⊢
    generalize s1.n = pn at h2 ⊢
    clear g0 h1
    refine join_by fun J5 hJ5 => ?_
    have t5 : ∀ s3, Hs s3 X (Cel pn (rowV (rowB (l[j] :: l.drop (j + 1)) s)) :: R) → J5 [] s3 := by
      intro s3 h3
      refine hJ5 _ _ ?_
      (simp (maxSteps := 1000000) (dsimp := false) (disch := (first | omega | (simp only [okR]; done) | (simp only [sizeR] <;> omega) | fail)) only [↓preR, postR, ↓w_join, Nat.reduceEqDiff, Nat.reduceAdd, Nat.reduceSub, Nat.reduceMul, Int.reduceNeg, Nat.reduceLT, Int.reduceToNat, Nat.reduceLeDiff, Nat.sub_zero])
      exact next _ _ h3
    clear hJ5 next
    have zl : (List.replicate (s.length + 1) false).length = s.length + 1 := by simp
    have nl := rowB_len (l[j] :: l.drop (j + 1)) s
    have nzl : (rowB (l[j] :: l.drop (j + 1)) s).length = (List.replicate (s.length + 1) false).length := by rw [nl, zl]
    have hm0 := mixB_zero nzl
    rw [zl] at hm0
    rw [← hm0] at h2
    (simp (maxSteps := 1000000) (dsimp := false) (disch := (first | omega | (simp only [okR]; done) | (simp only [sizeR] <;> omega) | fail)) only [↓preR, postR, ↓w_join, Nat.reduceEqDiff, Nat.reduceAdd, Nat.reduceSub, Nat.reduceMul, Int.reduceNeg, Nat.reduceLT, Int.reduceToNat, Nat.reduceLeDiff, Nat.sub_zero])
    refine loop_inv (fun nn xs s4 => ∃ i : Nat, xs = [.int .i64 ((i : Int) - 1)] ∧ i ≤ s.length + 1 ∧ Hs s4 X (Cel pn (rowV (mixB (rowB (l[j] :: l.drop (j + 1)) s) (List.replicate (s.length + 1) false) i)) :: Cel p (rowV (rowB (l.drop (j + 1)) s)) :: R) ∧ nn = i) _ ⟨s.length + 1, by simp, Nat.le_refl _, h2, rfl⟩ ?_
    clear h2
    rintro i _ s4 again2 ⟨i0, rfl, hi2, h4, hn⟩ hag2
    subst hn
    cases i with
    | zero =>
      rw [mixB_all] at h4
      have e0 : (((0 : Nat) : Int) - 1) = -1 := rfl
      rw [e0]
      (simp (maxSteps := 1000000) (dsimp := false) (disch := (first | omega | (simp only [okR]; done) | (simp only [sizeR] <;> omega) | fail)) only [↓preR, postR, ↓w_join, Nat.reduceEqDiff, Nat.reduceAdd, Nat.reduceSub, Nat.reduceMul, Int.reduceNeg, Nat.reduceLT, Int.reduceToNat, Nat.reduceLeDiff, Nat.sub_zero])
      exact t5 _ h4.swap.drop
    | succ i =>
      rw [show (((i + 1 : Nat) : Int) - 1) = (i : Int) from by omega]
      have hml : (mixB (rowB (l[j] :: l.drop (j + 1)) s) (List.replicate (s.length + 1) false) (i + 1)).length = s.length + 1 := by rw [mixB_len nzl (by rw [zl]; omega), zl]
      have hst := mixB_set (i := i) nzl (by rw [zl]; omega)
      rw [rowB_get (by omega)] at hst
      have g0 := h4.ldx c0
      have g1 := h4.ldx c1
      have g2 := h4.ldx c2
      have g3 := h4.ldx c3
      have key : ∀ s5 b, Hs s5 X (Cel pn (rowV (mixB (rowB (l[j] :: l.drop (j + 1)) s) (List.replicate (s.length + 1) false) (i + 1))) :: Cel p (rowV (rowB (l.drop (j + 1)) s)) :: R) →
          fitB (l[j] :: l.drop (j + 1)) (s.drop i) = b → again2 [.int .i64 ((i : Int) - 1)] (s5.put pn (.cells ((rowV (mixB (rowB (l[j] :: l.drop (j + 1)) s) (List.replicate (s.length + 1) false) (i + 1))).set i (.bool b)))) := by
        rintro s5 b h5 rfl
        refine hag2 i _ _ ⟨i, rfl, by omega, ?_, rfl⟩ (by omega)
        rw [rowV_set, hst]
        exact h5.put
      clear hag2
      have r0 := rowV_get (l := rowB (l.drop (j + 1)) s) (i := i) (by omega)
      rw [rowB_get (by omega)] at r0
      by_cases hk3 : l[j].1 = 3
      · rw [fitB_many hk3 (by omega)] at key
        cases hb : fitB (l.drop (j + 1)) (s.drop i) with
        | true =>
          rw [hb] at r0 key
          (simp (maxSteps := 1000000) (dsimp := false) (disch := (first | omega | (simp only [okR]; done) | (simp only [sizeR] <;> omega) | fail)) only [↓preR, postR, ↓w_join, Nat.reduceEqDiff, Nat.reduceAdd, Nat.reduceSub, Nat.reduceMul, Int.reduceNeg, Nat.reduceLT, Int.reduceToNat, Nat.reduceLeDiff, Nat.sub_zero, h4.obj, h4.obj1, g0, hk3, r0, rowV_len, hml])
          exact key _ _ h4 rfl
        | false =>
          rw [hb] at r0 key
          by_cases hil : i < s.length
          · have r1 := rowV_get (l := mixB (rowB (l[j] :: l.drop (j + 1)) s) (List.replicate (s.length + 1) false) (i + 1)) (i := i + 1) (by omega)
            rw [mixB_new nzl (Nat.le_refl _) (by rw [zl]; omega), rowB_get (by omega)] at r1
            (simp (maxSteps := 1000000) (dsimp := false) (disch := (first | omega | (simp only [okR]; done) | (simp only [sizeR] <;> omega) | fail)) only [↓preR, postR, ↓w_join, Nat.reduceEqDiff, Nat.reduceAdd, Nat.reduceSub, Nat.reduceMul, Int.reduceNeg, Nat.reduceLT, Int.reduceToNat, Nat.reduceLeDiff, Nat.sub_zero, h4.obj, h4.obj1, g0, hk3, r0, r1, rowV_len, hml])
            exact key _ _ h4 (by simp [hil])
          · (simp (maxSteps := 1000000) (dsimp := false) (disch := (first | omega | (simp only [okR]; done) | (simp only [sizeR] <;> omega) | fail)) only [↓preR, postR, ↓w_join, Nat.reduceEqDiff, Nat.reduceAdd, Nat.reduceSub, Nat.reduceMul, Int.reduceNeg, Nat.reduceLT, Int.reduceToNat, Nat.reduceLeDiff, Nat.sub_zero, h4.obj, h4.obj1, g0, hk3, r0, rowV_len, hml])
            exact key _ _ h4 (by simp [hil])
      · by_cases hil : i < s.length
        · rw [fitB_one hk3 hil] at key
          have e1 : (s[i]?.getD 0) = s[i] := by rw [List.getElem?_eq_getElem hil]; rfl
          (simp (maxSteps := 1000000) (dsimp := false) (disch := (first | omega | (simp only [okR]; done) | (simp only [sizeR] <;> omega) | fail)) only [↓preR, postR, ↓w_join, Nat.reduceEqDiff, Nat.reduceAdd, Nat.reduceSub, Nat.reduceMul, Int.reduceNeg, Nat.reduceLT, Int.reduceToNat, Nat.reduceLeDiff, Nat.sub_zero, h4.obj, h4.obj1, g0, g1, g2, g3, hk3, e1])
          refine fits_c (kd := l[j].1) (b1 := l[j].2.1) (nt := l[j].2.2.1) (rs := l[j].2.2.2) (c := s[i]) rfl hu h4 fun s5 h5 => ?_
          have r1 := rowV_get (l := rowB (l.drop (j + 1)) s) (i := i + 1) (by omega)
          rw [rowB_get (by omega)] at r1
          have ef : fit1 (l[j].1, l[j].2.1, l[j].2.2.1, l[j].2.2.2) s[i] = fit1 l[j] s[i] := rfl
          rw [ef]
          cases hf : fit1 l[j] s[i] with
          | true =>
            rw [hf] at key
            (simp (maxSteps := 1000000) (dsimp := false) (disch := (first | omega | (simp only [okR]; done) | (simp only [sizeR] <;> omega) | fail)) only [↓preR, postR, ↓w_join, Nat.reduceEqDiff, Nat.reduceAdd, Nat.reduceSub, Nat.reduceMul, Int.reduceNeg, Nat.reduceLT, Int.reduceToNat, Nat.reduceLeDiff, Nat.sub_zero, h5.obj, h5.obj1, r1, rowV_len, hml])
            exact key _ _ h5 (by rw [Bool.true_and])
          | false =>
            rw [hf] at key
            (simp (maxSteps := 1000000) (dsimp := false) (disch := (first | omega | (simp only [okR]; done) | (simp only [sizeR] <;> omega) | fail)) only [↓preR, postR, ↓w_join, Nat.reduceEqDiff, Nat.reduceAdd, Nat.reduceSub, Nat.reduceMul, Int.reduceNeg, Nat.reduceLT, Int.reduceToNat, Nat.reduceLeDiff, Nat.sub_zero, h5.obj, h5.obj1, rowV_len, hml])
            exact key _ _ h5 (by rw [Bool.false_and])
        · obtain rfl : i = s.length := by omega
          (simp (maxSteps := 1000000) (dsimp := false) (disch := (first | omega | (simp only [okR]; done) | (simp only [sizeR] <;> omega) | fail)) only [↓preR, postR, ↓w_join, Nat.reduceEqDiff, Nat.reduceAdd, Nat.reduceSub, Nat.reduceMul, Int.reduceNeg, Nat.reduceLT, Int.reduceToNat, Nat.reduceLeDiff, Nat.sub_zero, h4.obj, h4.obj1, g0, hk3, rowV_len, hml])
          exact key _ _ h4 (fitB_end hk3)
end
end Go.Proofs.Ytgkhdiahncemcaa
