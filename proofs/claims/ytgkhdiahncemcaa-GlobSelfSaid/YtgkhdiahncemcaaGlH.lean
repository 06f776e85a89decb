/- Patterns: the program's rows of what tokens fit. Conditions: as each theorem says. -/
import Derived.Test.YtgkhdiahncemcaaGlG
namespace Go.Proofs.Ytgkhdiahncemcaa
open E Go.Lib
set_option linter.unusedVariables false
set_option linter.unusedSimpArgs false
set_option maxHeartbeats 1000000
set_option maxRecDepth 20000

def rowV (l : List Bool) : List Value := l.map Value.bool
theorem rowV_len (l : List Bool) : (rowV l).length = l.length := by simp [rowV]
theorem rowV_get {l : List Bool} {i : Nat} (h : i < l.length) : (rowV l)[i]? = some (.bool (l[i]?.getD false)) := by simp [rowV, h]
theorem rowV_set (l : List Bool) (i : Nat) (b : Bool) : (rowV l).set i (.bool b) = rowV (l.set i b) := by simp [rowV]
theorem rep1 (n : Nat) : (List.replicate n [Value.bool false]).flatten = rowV (List.replicate n false) := by
  induction n with
  | zero => rfl
  | succ n ih => rw [List.replicate_succ, List.flatten_cons, ih]; rfl
theorem row0_set (n : Nat) : (rowV (List.replicate (n + 1) false)).set 0 (.bool true) = rowV (row0 n) := by
  rw [rowV_set]; rfl
theorem rowV_ok (l : List Bool) : (rowV l).all okCell = true := by
  rw [rowV, List.all_map, List.all_eq_true]; intro b _; rfl
theorem scan_succ : ∀ (row : List Bool) (a : Bool) (i : Nat), i + 1 < row.length → (scanOr a row)[i + 1]?.getD false = ((scanOr a row)[i]?.getD false || row[i + 1]?.getD false)
  | [], _, i, h => by simp at h
  | b :: [], a, i, h => by simp at h
  | b :: c :: r, a, 0, h => rfl
  | b :: c :: r, a, i + 1, h => by
    have := scan_succ (c :: r) (a || b) i (by simpa using h)
    simp only [scanOr, List.getElem?_cons_succ] at this ⊢
    exact this
theorem scan_zero {row : List Bool} (h : 0 < row.length) : (scanOr false row)[0]?.getD false = row[0]?.getD false := by
  cases row with
  | nil => simp at h
  | cons b r => simp [scanOr]
/-- A row, new up to a place. -/
def mix (nw od : List Bool) (i : Nat) : List Bool := nw.take i ++ od.drop i
section
variable {nw od : List Bool} {i j : Nat}
theorem mix_len (h : nw.length = od.length) (hi : i ≤ od.length) : (mix nw od i).length = od.length := by simp [mix]; omega
theorem mix_old (h : nw.length = od.length) (hi : i ≤ j) (hj : i ≤ od.length) : (mix nw od i)[j]?.getD false = od[j]?.getD false := by
  unfold mix
  rw [List.getElem?_append_right (by simp; omega), List.getElem?_drop]
  congr 2
  simp; omega
theorem mix_new (h : nw.length = od.length) (hi : j < i) (hj : i ≤ od.length) : (mix nw od i)[j]?.getD false = nw[j]?.getD false := by
  unfold mix
  rw [List.getElem?_append_left (by simp; omega), List.getElem?_take, if_pos hi]
theorem mix_set (h : nw.length = od.length) (hi : i < od.length) : (mix nw od i).set i (nw[i]?.getD false) = mix nw od (i + 1) := by
  unfold mix
  have hl : (nw.take i).length = i := by simp; omega
  rw [List.set_append_right _ _ (by omega), hl, Nat.sub_self, List.drop_eq_getElem_cons hi, List.set_cons_zero, List.take_succ_eq_append_getElem (by omega : i < nw.length), List.getElem?_eq_getElem (by omega : i < nw.length), List.append_assoc]
  rfl
theorem mix_all (h : nw.length = od.length) : mix nw od od.length = nw := by
  unfold mix
  rw [List.drop_eq_nil_of_le (Nat.le_refl _), List.append_nil, List.take_of_length_le (by omega)]
theorem mix_zero : mix nw od 0 = od := by simp [mix]
theorem mix_one (h : nw.length = od.length) (h0 : 0 < od.length) (he : nw[0]?.getD false = od[0]?.getD false) : mix nw od 1 = od := by
  rw [← mix_set h h0, he, mix_zero]
  apply List.ext_getElem?
  intro k
  rw [List.getElem?_set]
  split
  · rename_i e; subst e
    rw [List.getElem?_eq_getElem h0]
    simp [h0]
  · rfl
end
section
variable {σ σ' : AS} {X : Ce} {R : List Ck} {k : Value → AS → Prop} {l a b : List Tok} {u v va vb : Value} {c b1 : UInt8} {kd : Int} {nt : Bool} {p : Nat} {rs : List (UInt8 × UInt8)} {s : Str}
/-- A slice of a whole row. -/
abbrev rowS (p n : Nat) : Value := .slice (some ⟨p, 0, none⟩) n n
theorem mks_row {n : Nat} (hn : n ≤ 1000000) (s : AS) (K : Value → AS → Prop) : kMks s 1 1 [.bool false] (.int .i64 ((n : Int) + 1)) (.int .i64 ((n : Int) + 1)) K = K (rowS s.n (n + 1)) (s.new (.cells (rowV (List.replicate (n + 1) false)))) := by
  have e : ((n : Int) + 1).toNat = n + 1 := by omega
  rw [w_mks 1 1 _ _ _ _ _ (by omega) (by omega) (by omega) (by omega) rfl (by omega), e, rep1]
theorem reach_c (hl : RepL X v l) (hs : s.length ≤ 1000000) (h : Hs σ X R) (hk : ∀ p σ', Hs σ' X (Cel p (rowV (reachL l s)) :: R) → k (rowS p (s.length + 1)) σ') :
    kCall Try.prog 25 [v, .string (bs s)] σ k := by
  obtain ⟨a1, ab, ao, acap, rfl, hac, ham, aat⟩ := tok_at hl
  unfold maxLen at ham
  have eS : ((s.length : Int) + 1).toNat = s.length + 1 := by omega
  refine f25 ?_
  have h1 := (h.new (cs := rowV (List.replicate (s.length + 1) false))).put (cs' := rowV (row0 s.length))
  have hl0 : (rowV (List.replicate (s.length + 1) false)).length = s.length + 1 := by rw [rowV_len, List.length_replicate]
  (try simp (maxSteps := 1000000) (dsimp := false) (disch := (first | omega | (simp only [okR]; done) | (simp only [sizeR] <;> omega) | fail)) only [↓preR, postR, ↓w_stop, Nat.reduceEqDiff, Nat.reduceAdd, Nat.reduceSub, Nat.reduceMul, Int.reduceNeg, Nat.reduceLT, Int.reduceToNat, Nat.reduceLeDiff, Nat.sub_zero, F25, ↓mks_row hs, hl0, row0_set])
  refine join_now ?_
  (try simp (maxSteps := 1000000) (dsimp := false) (disch := (first | omega | (simp only [okR]; done) | (simp only [sizeR] <;> omega) | fail)) only [↓preR, postR, ↓w_stop, Nat.reduceEqDiff, Nat.reduceAdd, Nat.reduceSub, Nat.reduceMul, Int.reduceNeg, Nat.reduceLT, Int.reduceToNat, Nat.reduceLeDiff, Nat.sub_zero])
  generalize σ.n = p0 at h1 ⊢
  generalize AS.put _ p0 _ = s0 at h1 ⊢
  refine loop_inv (fun nn xs s1 => ∃ (j p : Nat), xs = [rowS p (s.length + 1), .int .i64 j] ∧ Hs s1 X (Cel p (rowV (reachL (l.take j) s)) :: R) ∧ j ≤ l.length ∧ nn = l.length - j) _ ⟨0, p0, rfl, h1, Nat.zero_le _, rfl⟩ ?_
  clear h1
  rintro _ _ s1 again ⟨j, p, rfl, h1, hj, rfl⟩ hag
  by_cases hlt : j < l.length
  · obtain ⟨rfl, u, hkd, hu, c0, c1, c2, c3⟩ := aat j hlt
    obtain ⟨ra, rcap, hu', _⟩ := hu.val
    subst hu'
    have g0 := h1.ldx c0
    have g1 := h1.ldx c1
    have g2 := h1.ldx c2
    have g3 := h1.ldx c3
    have next : ∀ s2 p2, Hs s2 X (Cel p2 (rowV (stepL s (reachL (l.take j) s) l[j])) :: R) → again [rowS p2 (s.length + 1), .int .i64 ((j : Int) + 1)] s2 := by
      intro s2 p2 h2
      refine hag _ _ _ ⟨j + 1, p2, by simp, ?_, hlt, rfl⟩ (by omega)
      rw [List.take_succ_eq_append_getElem hlt]
      unfold reachL at h2 ⊢
      rw [List.foldl_append]
      exact h2
    clear hag
    have hrl : (reachL (l.take j) s).length = s.length + 1 := reachL_len _ _
    generalize reachL (l.take j) s = row at h1 next hrl
    have h2 := (((h1.new (cs := tokC 0 0 false (.slice none 0 0))).put (cs' := tokC l[j].1 l[j].2.1.toNat l[j].2.2.1 (.slice ra l[j].2.2.2.length rcap)))).new (cs := rowV (List.replicate (s.length + 1) false))
    (try simp (maxSteps := 1000000) (dsimp := false) (disch := (first | omega | (simp only [okR]; done) | (simp only [sizeR] <;> omega) | fail)) only [↓preR, postR, ↓w_stop, Nat.reduceEqDiff, Nat.reduceAdd, Nat.reduceSub, Nat.reduceMul, Int.reduceNeg, Nat.reduceLT, Int.reduceToNat, Nat.reduceLeDiff, Nat.sub_zero, g0, g1, g2, g3, ↓mks_row hs])
    refine join_now ?_
    (try simp (maxSteps := 1000000) (dsimp := false) (disch := (first | omega | (simp only [okR]; done) | (simp only [sizeR] <;> omega) | fail)) only [↓preR, postR, ↓w_stop, Nat.reduceEqDiff, Nat.reduceAdd, Nat.reduceSub, Nat.reduceMul, Int.reduceNeg, Nat.reduceLT, Int.reduceToNat, Nat.reduceLeDiff, Nat.sub_zero, g0, g1, g2, g3, ↓mks_row hs])
    refine join_now ?_
    (try simp (maxSteps := 1000000) (dsimp := false) (disch := (first | omega | (simp only [okR]; done) | (simp only [sizeR] <;> omega) | fail)) only [↓preR, postR, ↓w_stop, Nat.reduceEqDiff, Nat.reduceAdd, Nat.reduceSub, Nat.reduceMul, Int.reduceNeg, Nat.reduceLT, Int.reduceToNat, Nat.reduceLeDiff, Nat.sub_zero, g0, g1, g2, g3, ↓mks_row hs])
    simp only [put_n, new_n] at h2 ⊢
    generalize AS.new _ (Ob.cells (rowV (List.replicate (s.length + 1) false))) = s2 at h2 ⊢
    generalize s1.n + 1 = pn at h2 ⊢
    generalize s1.n = pt at h2 ⊢
    clear g0 g1 g2 g3 h1
    refine join_by fun J5 hJ5 => ?_
    have t5 : ∀ s3, Hs s3 X (Cel pn (rowV (stepL s row l[j])) :: R) → J5 [] s3 := by
      intro s3 h3
      refine hJ5 _ _ ?_
      (simp (maxSteps := 1000000) (dsimp := false) (disch := (first | omega | (simp only [okR]; done) | (simp only [sizeR] <;> omega) | fail)) only [↓preR, postR, ↓w_join, Nat.reduceEqDiff, Nat.reduceAdd, Nat.reduceSub, Nat.reduceMul, Int.reduceNeg, Nat.reduceLT, Int.reduceToNat, Nat.reduceLeDiff, Nat.sub_zero])
      exact next _ _ h3
    clear hJ5 next
    have zl : (List.replicate (s.length + 1) false).length = s.length + 1 := by simp
    by_cases hk3 : l[j].1 = 3
    · have est : stepL s row l[j] = scanOr false row := by unfold stepL; rw [if_pos hk3]
      rw [est] at t5
      have hsl : (scanOr false row).length = row.length := scanOr_len _ _
      (simp (maxSteps := 1000000) (dsimp := false) (disch := (first | omega | (simp only [okR]; done) | (simp only [sizeR] <;> omega) | fail)) only [↓preR, postR, ↓w_join, Nat.reduceEqDiff, Nat.reduceAdd, Nat.reduceSub, Nat.reduceMul, Int.reduceNeg, Nat.reduceLT, Int.reduceToNat, Nat.reduceLeDiff, Nat.sub_zero, h2.obj1, hk3])
      refine cpy_row (e := 4) (l := rowV (List.replicate (s.length + 1) false)) (news := rowV row) (sz := 1) (by kernel_rfl) (by kernel_rfl) h2.obj ?_ (rowV_ok row) (by rw [rowV_len, rowV_len, hrl, List.length_replicate, Nat.zero_add]; exact Nat.le_refl _) ?_
      · rw [ldsM h2.obj2 _ 0 (by rw [rowV_len, hrl]; simp), List.drop_zero, List.take_of_length_le (by rw [rowV_len, hrl]; simp)]
      have e1 : (rowV (List.replicate (s.length + 1) false)).take 0 ++ rowV row ++ (rowV (List.replicate (s.length + 1) false)).drop (0 + (rowV row).length) = rowV (mix (scanOr false row) row 1) := by
        rw [mix_one hsl (by omega) (scan_zero (by omega)), List.take_zero, List.nil_append, List.drop_eq_nil_of_le (by simp [rowV_len, hrl]), List.append_nil]
      rw [e1]
      have h3 := h2.put (cs' := rowV (mix (scanOr false row) row 1))
      refine loop_inv (fun nn xs s4 => ∃ i : Nat, xs = [.int .i64 i] ∧ 1 ≤ i ∧ i ≤ s.length + 1 ∧ Hs s4 X (Cel pn (rowV (mix (scanOr false row) row i)) :: Cel pt (tokC l[j].1 l[j].2.1.toNat l[j].2.2.1 (.slice ra l[j].2.2.2.length rcap)) :: Cel p (rowV row) :: R) ∧ nn = s.length + 1 - i) _ ⟨1, rfl, Nat.le_refl _, by omega, h3, rfl⟩ ?_
      clear h2 h3
      rintro _ _ s4 again2 ⟨i, rfl, hi1, hi2, h4, rfl⟩ hag2
      have hml : (mix (scanOr false row) row i).length = s.length + 1 := by rw [mix_len hsl (by omega), hrl]
      by_cases hil : i ≤ s.length
      · have c1 := rowV_get (l := mix (scanOr false row) row i) (i := i) (by omega)
        rw [mix_old hsl (Nat.le_refl _) (by omega)] at c1
        have c2 := rowV_get (l := mix (scanOr false row) row i) (i := i - 1) (by omega)
        rw [mix_new hsl (by omega) (by omega)] at c2
        have hsc := scan_succ row false (i - 1) (by omega)
        rw [show i - 1 + 1 = i from by omega] at hsc
        have hst := mix_set (nw := scanOr false row) (od := row) (i := i) hsl (by omega)
        have h5 := h4.put (cs' := rowV (mix (scanOr false row) row (i + 1)))
        have hrs : ∀ b, (scanOr false row)[i]?.getD false = b → (rowV (mix (scanOr false row) row i)).set i (.bool b) = rowV (mix (scanOr false row) row (i + 1)) := by
          rintro b rfl
          rw [rowV_set, hst]
        have hag3 := hag2 (s.length + 1 - (i + 1)) [.int .i64 ((i : Int) + 1)] _ ⟨i + 1, by simp, by omega, by omega, h5, rfl⟩ (by omega)
        cases hb : row[i]?.getD false with
        | true =>
          rw [hb, Bool.or_true] at hsc
          rw [hb] at c1
          (simp (maxSteps := 1000000) (dsimp := false) (disch := (first | omega | (simp only [okR]; done) | (simp only [sizeR] <;> omega) | fail)) only [↓preR, postR, ↓w_join, Nat.reduceEqDiff, Nat.reduceAdd, Nat.reduceSub, Nat.reduceMul, Int.reduceNeg, Nat.reduceLT, Int.reduceToNat, Nat.reduceLeDiff, Nat.sub_zero, h4.obj, c1, rowV_len, hml, hrs _ hsc])
          exact hag3
        | false =>
          rw [hb, Bool.or_false] at hsc
          rw [hb] at c1
          (simp (maxSteps := 1000000) (dsimp := false) (disch := (first | omega | (simp only [okR]; done) | (simp only [sizeR] <;> omega) | fail)) only [↓preR, postR, ↓w_join, Nat.reduceEqDiff, Nat.reduceAdd, Nat.reduceSub, Nat.reduceMul, Int.reduceNeg, Nat.reduceLT, Int.reduceToNat, Nat.reduceLeDiff, Nat.sub_zero, h4.obj, c1, c2, rowV_len, hml, hrs _ hsc])
          exact hag3
      · obtain rfl : i = s.length + 1 := by omega
        rw [← hrl, mix_all hsl] at h4
        (simp (maxSteps := 1000000) (dsimp := false) (disch := (first | omega | (simp only [okR]; done) | (simp only [sizeR] <;> omega) | fail)) only [↓preR, postR, ↓w_join, Nat.reduceEqDiff, Nat.reduceAdd, Nat.reduceSub, Nat.reduceMul, Int.reduceNeg, Nat.reduceLT, Int.reduceToNat, Nat.reduceLeDiff, Nat.sub_zero])
        exact t5 _ (h4.swap.drop.swap.drop)
    · have est : stepL s row l[j] = false :: List.zipWith (fun b c => b && fit1 l[j] c) row s := by unfold stepL; rw [if_neg hk3]
      rw [est] at t5
      have zl2 : (false :: List.zipWith (fun b c => b && fit1 l[j] c) row s).length = (List.replicate (s.length + 1) false).length := by simp [hrl]
      (simp (maxSteps := 1000000) (dsimp := false) (disch := (first | omega | (simp only [okR]; done) | (simp only [sizeR] <;> omega) | fail)) only [↓preR, postR, ↓w_join, Nat.reduceEqDiff, Nat.reduceAdd, Nat.reduceSub, Nat.reduceMul, Int.reduceNeg, Nat.reduceLT, Int.reduceToNat, Nat.reduceLeDiff, Nat.sub_zero, h2.obj1, hk3])
      rw [← mix_one zl2 (by simp) (by simp)] at h2
      refine loop_inv (fun nn xs s4 => ∃ i : Nat, xs = [.int .i64 i] ∧ i ≤ s.length ∧ Hs s4 X (Cel pn (rowV (mix (false :: List.zipWith (fun b c => b && fit1 l[j] c) row s) (List.replicate (s.length + 1) false) (i + 1))) :: Cel pt (tokC l[j].1 l[j].2.1.toNat l[j].2.2.1 (.slice ra l[j].2.2.2.length rcap)) :: Cel p (rowV row) :: R) ∧ nn = s.length - i) _ ⟨0, rfl, by omega, h2, rfl⟩ ?_
      clear h2
      rintro _ _ s4 again2 ⟨i, rfl, hi2, h4, rfl⟩ hag2
      have hml : (mix (false :: List.zipWith (fun b c => b && fit1 l[j] c) row s) (List.replicate (s.length + 1) false) (i + 1)).length = s.length + 1 := by rw [mix_len zl2 (by rw [zl]; omega), zl]
      by_cases hil : i < s.length
      · have c1 := rowV_get (l := row) (i := i) (by omega)
        have e1 : (s[i]?.getD 0) = s[i] := by rw [List.getElem?_eq_getElem hil]; rfl
        have hst := mix_set (nw := false :: List.zipWith (fun b c => b && fit1 l[j] c) row s) (od := List.replicate (s.length + 1) false) (i := i + 1) zl2 (by rw [zl]; omega)
        rw [List.getElem?_cons_succ, zip_get hrl hil] at hst
        have key : ∀ s5 b, Hs s5 X (Cel pn (rowV (mix (false :: List.zipWith (fun b c => b && fit1 l[j] c) row s) (List.replicate (s.length + 1) false) (i + 1))) :: Cel pt (tokC l[j].1 l[j].2.1.toNat l[j].2.2.1 (.slice ra l[j].2.2.2.length rcap)) :: Cel p (rowV row) :: R) →
            (row[i]?.getD false && fit1 l[j] s[i]) = b → again2 [.int .i64 ((i : Int) + 1)] (s5.put pn (.cells ((rowV (mix (false :: List.zipWith (fun b c => b && fit1 l[j] c) row s) (List.replicate (s.length + 1) false) (i + 1))).set (i + 1) (.bool b)))) := by
          rintro s5 b h5 rfl
          refine hag2 (s.length - (i + 1)) _ _ ⟨i + 1, by simp, by omega, ?_, rfl⟩ (by omega)
          rw [rowV_set, hst]
          exact h5.put
        clear hag2
        cases hb : row[i]?.getD false with
        | true =>
          rw [hb] at c1 key
          (simp (maxSteps := 1000000) (dsimp := false) (disch := (first | omega | (simp only [okR]; done) | (simp only [sizeR] <;> omega) | fail)) only [↓preR, postR, ↓w_join, Nat.reduceEqDiff, Nat.reduceAdd, Nat.reduceSub, Nat.reduceMul, Int.reduceNeg, Nat.reduceLT, Int.reduceToNat, Nat.reduceLeDiff, Nat.sub_zero, h4.obj1, h4.obj2, c1, e1])
          refine has_c (kd := l[j].1) (b1 := l[j].2.1) (nt := l[j].2.2.1) (rs := l[j].2.2.2) (c := s[i]) rfl hu h4 fun s5 h5 => ?_
          (simp (maxSteps := 1000000) (dsimp := false) (disch := (first | omega | (simp only [okR]; done) | (simp only [sizeR] <;> omega) | fail)) only [↓preR, postR, ↓w_join, Nat.reduceEqDiff, Nat.reduceAdd, Nat.reduceSub, Nat.reduceMul, Int.reduceNeg, Nat.reduceLT, Int.reduceToNat, Nat.reduceLeDiff, Nat.sub_zero, h5.obj, rowV_len, hml])
          exact key _ _ h5 (by rw [Bool.true_and])
        | false =>
          rw [hb] at c1 key
          (simp (maxSteps := 1000000) (dsimp := false) (disch := (first | omega | (simp only [okR]; done) | (simp only [sizeR] <;> omega) | fail)) only [↓preR, postR, ↓w_join, Nat.reduceEqDiff, Nat.reduceAdd, Nat.reduceSub, Nat.reduceMul, Int.reduceNeg, Nat.reduceLT, Int.reduceToNat, Nat.reduceLeDiff, Nat.sub_zero, h4.obj, h4.obj1, h4.obj2, c1, rowV_len, hml])
          exact key _ _ h4 (by rw [Bool.false_and])
      · obtain rfl : i = s.length := by omega
        have e9 := mix_all zl2
        rw [zl] at e9
        rw [e9] at h4
        (simp (maxSteps := 1000000) (dsimp := false) (disch := (first | omega | (simp only [okR]; done) | (simp only [sizeR] <;> omega) | fail)) only [↓preR, postR, ↓w_join, Nat.reduceEqDiff, Nat.reduceAdd, Nat.reduceSub, Nat.reduceMul, Int.reduceNeg, Nat.reduceLT, Int.reduceToNat, Nat.reduceLeDiff, Nat.sub_zero])
        exact t5 _ (h4.swap.drop.swap.drop)
  · obtain rfl : j = l.length := by omega
    rw [List.take_length] at h1
    (simp (maxSteps := 1000000) (dsimp := false) (disch := (first | omega | (simp only [okR]; done) | (simp only [sizeR] <;> omega) | fail)) only [↓preR, postR, ↓w_join, Nat.reduceEqDiff, Nat.reduceAdd, Nat.reduceSub, Nat.reduceMul, Int.reduceNeg, Nat.reduceLT, Int.reduceToNat, Nat.reduceLeDiff, Nat.sub_zero])
    exact hk _ _ h1
end
end Go.Proofs.Ytgkhdiahncemcaa
