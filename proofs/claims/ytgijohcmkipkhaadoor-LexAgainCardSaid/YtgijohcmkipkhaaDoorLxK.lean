/- A text in place is taken up. Conditions: as each theorem says. -/
import Derived.Test.YtgijohcmkipkhaaDoorLxJ
namespace Go.Proofs.YtgijohcmkipkhaaDoor
open E Go.Lib
open Go.RowKit
set_option linter.unusedVariables false
set_option linter.unusedSimpArgs false
set_option maxHeartbeats 1000000
set_option maxRecDepth 20000

theorem lineN_le (l : Str) : lineN l ≤ l.length := by
  unfold lineN
  cases h : posB 10 l with
  | none => exact Nat.le_refl _
  | some n => have := pos_lt h; exact Nat.le_of_lt this
/-- A line, without its tabs if they go. -/
def lineT (l : Str) (tabs : Bool) : Str := if tabs = true then trimLeftS (l.take (lineN l)) [9] else l.take (lineN l)
theorem lineT_len (l : Str) (tabs : Bool) : (lineT l tabs).length ≤ lineN l := by
  unfold lineT
  have h1 : (l.take (lineN l)).length ≤ lineN l := by rw [List.length_take]; exact Nat.min_le_left _ _
  split
  · have : (trimLeftS (l.take (lineN l)) [9]).length ≤ (l.take (lineN l)).length := (List.dropWhile_sublist _).length_le
    omega
  · exact h1
def nextI (s : Str) (i : Nat) : Nat := i + lineN (s.drop i) + (if lineN (s.drop i) < (s.drop i).length then 1 else 0)
theorem nextI_lt {s : Str} {i : Nat} (h : i < s.length) : i < nextI s i ∧ nextI s i ≤ s.length ∧ lineN (s.drop i) + 1 ≤ 2 * (nextI s i - i) := by
  have h1 := lineN_le (s.drop i)
  have h2 : (s.drop i).length = s.length - i := List.length_drop
  unfold nextI
  split <;> omega
theorem hd_s {f : Nat} {s : Str} {i : Nat} {fin : Str} {tabs : Bool} {acc : Str} (h : i < s.length) : heredoc (f + 1) s i fin tabs acc =
    if lineT (s.drop i) tabs = fin then some (acc, nextI s i) else heredoc f s (nextI s i) fin tabs (acc ++ (lineT (s.drop i) tabs ++ [10])) := by
  unfold nextI lineT
  rw [drop_c h]
  conv => lhs; unfold heredoc
  rw [drop_c h]
theorem hd_e {f : Nat} {s : Str} {i : Nat} {fin : Str} {tabs : Bool} {acc : Str} (h : s.length ≤ i) : heredoc (f + 1) s i fin tabs acc = none := by
  unfold heredoc
  rw [List.drop_of_length_le h]
section
variable {σ σ' : AS} {X : Ce} {R : List Ck} {k : Value → AS → Prop} {p g i : Nat} {s : Str} {u w : Value} {out : List Tok} {wt : Wt}
theorem takes_c (hw : WtP X wt g) (hop : wt.op < out.length) (hs : s.length ≤ 1000000) (hi : i ≤ s.length) (h : Hs σ X (Cel p (rdC 0 0 s i 0 [u, w]) :: E.Own (α := Tok) u out :: R))
    (hk : match heredoc (s.length + 1) s i wt.fin wt.tabs [] with
      | some (b, i') => ∀ v σ', i' ≤ s.length → Hs σ' X (Cel p (rdC 0 0 s i' 0 [u, w]) :: E.Own (α := Tok) u (setBody out wt.op b) :: R) → k v σ'
      | none => ∀ v σ' (at' : Nat), at' ≤ s.length → Hs σ' X (Cel p (rdC 12 (atOf out wt.op) s at' 0 [u, w]) :: E.Own (α := Tok) u out :: R) → k v σ') :
    kCall Tryd.prog 22 [pv p, pv g] σ k := by
  obtain ⟨x0, x1, x2, hfl⟩ := hw
  refine f22 ?_
  generalize hH : heredoc (s.length + 1) s i wt.fin wt.tabs [] = H at hk
  obtain ⟨tg, tc, _, _, rfl, htc, htm, _⟩ := tok_at h.drop hop
  unfold maxLen at htm
  (try simp (maxSteps := 1000000) (dsimp := false) (disch := (first | omega | (simp only [okR]; done) | (simp only [sizeR] <;> omega) | fail)) only [↓preR, postR, ↓w_stop, Nat.reduceEqDiff, Nat.reduceAdd, Nat.reduceSub, Nat.reduceMul, Int.reduceNeg, Nat.reduceLT, Int.reduceToNat, Nat.reduceLeDiff, Nat.sub_zero, F22])
  refine join_by fun J1 hJ1 => ?_
  have tail1 : ∀ (s1 : AS) (at' : Nat) (b : Value), H = none → at' ≤ s.length → Hs s1 X (Cel p (rdC 0 0 s at' 0 [.slice (some ⟨tg, 0, none⟩) out.length tc, w]) :: E.Own (α := Tok) (.slice (some ⟨tg, 0, none⟩) out.length tc) out :: R) → J1 [] s1 := by
    intro s1 at' b hHn hat h1
    refine hJ1 _ _ ?_
    clear hJ1
    subst hHn
    obtain ⟨g', c', ys, b', e1, _, _, hm, hyl, hP, y0, y1, y2, y3, y4, _⟩ := tok_at h1.drop hop
    injection e1 with e2 _ _
    injection e2 with e2
    injection e2 with e3 _ _
    subst e3
    have g0 := h1.ldx x0
    (try simp (maxSteps := 1000000) (dsimp := false) (disch := (first | omega | (simp only [okR]; done) | (simp only [sizeR] <;> omega) | fail)) only [↓preR, postR, ↓w_stop, Nat.reduceEqDiff, Nat.reduceAdd, Nat.reduceSub, Nat.reduceMul, Int.reduceNeg, Nat.reduceLT, Int.reduceToNat, Nat.reduceLeDiff, Nat.sub_zero, h1.obj, g0, hm, y2])
    refine isb_c h1 fun v s2 h2 => ?_
    (try simp (maxSteps := 1000000) (dsimp := false) (disch := (first | omega | (simp only [okR]; done) | (simp only [sizeR] <;> omega) | fail)) only [↓preR, postR, ↓w_join, Nat.reduceEqDiff, Nat.reduceAdd, Nat.reduceSub, Nat.reduceMul, Int.reduceNeg, Nat.reduceLT, Int.reduceToNat, Nat.reduceLeDiff, Nat.sub_zero])
    refine hk _ _ at' hat ?_
    have e : atOf out wt.op = out[wt.op].at' := by unfold atOf; rw [List.getElem?_eq_getElem hop]
    rw [e]
    exact h2
  clear hJ1
  (try simp (maxSteps := 1000000) (dsimp := false) (disch := (first | omega | (simp only [okR]; done) | (simp only [sizeR] <;> omega) | fail)) only [↓preR, postR, ↓w_stop, Nat.reduceEqDiff, Nat.reduceAdd, Nat.reduceSub, Nat.reduceMul, Int.reduceNeg, Nat.reduceLT, Int.reduceToNat, Nat.reduceLeDiff, Nat.sub_zero])
  refine loop_inv (fun nn xs s1 => ∃ (i1 f : Nat) (acc : Str), xs = [.string (bs acc)] ∧ i1 ≤ s.length ∧ s.length - i1 < f ∧ acc.length ≤ 2 * i1 ∧ heredoc f s i1 wt.fin wt.tabs acc = H ∧ Hs s1 X (Cel p (rdC 0 0 s i1 0 [.slice (some ⟨tg, 0, none⟩) out.length tc, w]) :: E.Own (α := Tok) (.slice (some ⟨tg, 0, none⟩) out.length tc) out :: R) ∧ nn = s.length - i1) _
    ⟨i, s.length + 1, [], rfl, hi, by omega, Nat.zero_le _, hH, h, rfl⟩ ?_
  rintro _ _ s1 again ⟨i1, f, acc, rfl, hi1, hf, hal, hh, h1, rfl⟩ hag
  obtain ⟨f, rfl⟩ : ∃ f', f = f' + 1 := ⟨f - 1, by omega⟩
  (try simp (maxSteps := 1000000) (dsimp := false) (disch := (first | omega | (simp only [okR]; done) | (simp only [sizeR] <;> omega) | fail)) only [↓preR, postR, ↓w_stop, Nat.reduceEqDiff, Nat.reduceAdd, Nat.reduceSub, Nat.reduceMul, Int.reduceNeg, Nat.reduceLT, Int.reduceToNat, Nat.reduceLeDiff, Nat.sub_zero])
  refine join_now ?_
  by_cases hlt : i1 < s.length
  rotate_left
  · rw [hd_e (by omega)] at hh
    (try simp (maxSteps := 1000000) (dsimp := false) (disch := (first | omega | (simp only [okR]; done) | (simp only [sizeR] <;> omega) | fail)) only [↓preR, postR, ↓w_stop, Nat.reduceEqDiff, Nat.reduceAdd, Nat.reduceSub, Nat.reduceMul, Int.reduceNeg, Nat.reduceLT, Int.reduceToNat, Nat.reduceLeDiff, Nat.sub_zero, h1.obj])
    exact tail1 s1 i1 undef hh.symm hi1 h1
  rw [hd_s hlt] at hh
  obtain ⟨n1, n2, n3⟩ := nextI_lt hlt
  have ll := lineN_le (s.drop i1)
  have dl : (s.drop i1).length = s.length - i1 := List.length_drop
  (try simp (maxSteps := 1000000) (dsimp := false) (disch := (first | omega | (simp only [okR]; done) | (simp only [sizeR] <;> omega) | fail)) only [↓preR, postR, ↓w_stop, Nat.reduceEqDiff, Nat.reduceAdd, Nat.reduceSub, Nat.reduceMul, Int.reduceNeg, Nat.reduceLT, Int.reduceToNat, Nat.reduceLeDiff, Nat.sub_zero, h1.obj, drop_all])
  refine cut_c (by omega) fun rest => ?_
  have tl : ((s.drop i1).take (lineN (s.drop i1))).length = lineN (s.drop i1) := by rw [List.length_take]; omega
  have h2 := h1.put (cs' := rdC 0 0 s ((i1 : Int) + (lineN (s.drop i1) : Int)) 0 [.slice (some ⟨tg, 0, none⟩) out.length tc, w])
  generalize hln : lineN (s.drop i1) = ln at ll tl h2 n3 ⊢
  have tlI : (((s.drop i1).take ln).length : Int) = (ln : Int) := by rw [tl]
  (try simp (maxSteps := 1000000) (dsimp := false) (disch := (first | omega | (simp only [okR]; done) | (simp only [sizeR] <;> omega) | fail)) only [↓preR, postR, ↓w_stop, Nat.reduceEqDiff, Nat.reduceAdd, Nat.reduceSub, Nat.reduceMul, Int.reduceNeg, Nat.reduceLT, Int.reduceToNat, Nat.reduceLeDiff, Nat.sub_zero, h1.obj, tlI, ↓tlI])
  generalize AS.put _ _ _ = s2 at h2 ⊢
  clear h1
  refine join_by fun J4 hJ4 => ?_
  have tail4 : ∀ s3 : AS, Hs s3 X (Cel p (rdC 0 0 s (nextI s i1 : Nat) 0 [.slice (some ⟨tg, 0, none⟩) out.length tc, w]) :: E.Own (α := Tok) (.slice (some ⟨tg, 0, none⟩) out.length tc) out :: R) → J4 [] s3 := by
    intro s3 h3
    refine hJ4 _ _ ?_
    clear hJ4
    (try simp (maxSteps := 1000000) (dsimp := false) (disch := (first | omega | (simp only [okR]; done) | (simp only [sizeR] <;> omega) | fail)) only [↓preR, postR, ↓w_stop, Nat.reduceEqDiff, Nat.reduceAdd, Nat.reduceSub, Nat.reduceMul, Int.reduceNeg, Nat.reduceLT, Int.reduceToNat, Nat.reduceLeDiff, Nat.sub_zero])
    refine join_by fun J5 hJ5 => ?_
    have tail5 : ∀ s4 : AS, Hs s4 X (Cel p (rdC 0 0 s (nextI s i1 : Nat) 0 [.slice (some ⟨tg, 0, none⟩) out.length tc, w]) :: E.Own (α := Tok) (.slice (some ⟨tg, 0, none⟩) out.length tc) out :: R) → J5 [.string (bs (lineT (s.drop i1) wt.tabs))] s4 := by
      intro s4 h4
      refine hJ5 _ _ ?_
      clear hJ5
      have g0 := h4.ldx x0
      have g1 := h4.ldx x1
      have lT := lineT_len (s.drop i1) wt.tabs
      rw [hln] at lT
      (try simp (maxSteps := 1000000) (dsimp := false) (disch := (first | omega | (simp only [okR]; done) | (simp only [sizeR] <;> omega) | fail)) only [↓preR, postR, ↓w_stop, Nat.reduceEqDiff, Nat.reduceAdd, Nat.reduceSub, Nat.reduceMul, Int.reduceNeg, Nat.reduceLT, Int.reduceToNat, Nat.reduceLeDiff, Nat.sub_zero])
      refine join_now ?_
      by_cases hfin : lineT (s.drop i1) wt.tabs = wt.fin
      · rw [if_pos hfin] at hh
        subst hh
        obtain ⟨g', c', ys, b', e1, _, _, hm, hyl, hP, y0, y1, y2, y3, y4, hset, _⟩ := tok_at h4.swap hop
        injection e1 with e2 _ _
        injection e2 with e2
        injection e2 with e3 _ _
        subst e3
        have hT : (lineT (s.drop i1) wt.tabs = wt.fin) = True := eq_true hfin
        have hset' : Hs (s4.put tg (.cells (ys.set (wt.op * 5 + 3) (.string (bs acc))))) X (Cel p (rdC 0 0 s (nextI s i1 : Nat) 0 [.slice (some ⟨tg, 0, none⟩) out.length tc, w]) :: E.Own (α := Tok) (.slice (some ⟨tg, 0, none⟩) out.length tc) (setBody out wt.op acc) :: R) := by
          have h5 := (hset acc (by omega)).swap
          unfold setBody
          rw [List.getElem?_eq_getElem hop]
          exact h5
        (try simp (maxSteps := 1000000) (dsimp := false) (disch := (first | omega | (simp only [okR]; done) | (simp only [sizeR] <;> omega) | fail)) only [↓preR, postR, ↓w_stop, Nat.reduceEqDiff, Nat.reduceAdd, Nat.reduceSub, Nat.reduceMul, Int.reduceNeg, Nat.reduceLT, Int.reduceToNat, Nat.reduceLeDiff, Nat.sub_zero, g0, g1, hT, h4.obj, hm])
        exact hk _ _ n2 hset'
      · rw [if_neg hfin] at hh
        have hF : (lineT (s.drop i1) wt.tabs = wt.fin) = False := eq_false hfin
        (try simp (maxSteps := 1000000) (dsimp := false) (disch := (first | omega | (simp only [okR]; done) | (simp only [sizeR] <;> omega) | fail)) only [↓preR, postR, ↓w_stop, Nat.reduceEqDiff, Nat.reduceAdd, Nat.reduceSub, Nat.reduceMul, Int.reduceNeg, Nat.reduceLT, Int.reduceToNat, Nat.reduceLeDiff, Nat.sub_zero, g1, hF])
        refine hag _ _ _ ⟨nextI s i1, f, _, rfl, n2, by omega, ?_, hh, h4, rfl⟩ (by omega)
        simp only [List.length_append, List.length_singleton]
        omega
    clear hJ5
    have g2 := h3.ldx x2
    cases htb : wt.tabs with
    | true =>
      rw [htb] at g2
      have e : lineT (s.drop i1) wt.tabs = trimLeftS ((s.drop i1).take ln) [9] := by unfold lineT; rw [hln, htb, if_pos rfl]
      rw [e] at tail5
      (try simp (maxSteps := 1000000) (dsimp := false) (disch := (first | omega | (simp only [okR]; done) | (simp only [sizeR] <;> omega) | fail)) only [↓preR, postR, ↓w_stop, Nat.reduceEqDiff, Nat.reduceAdd, Nat.reduceSub, Nat.reduceMul, Int.reduceNeg, Nat.reduceLT, Int.reduceToNat, Nat.reduceLeDiff, Nat.sub_zero, g2])
      refine triml_c (by rw [tl]; unfold maxLen; omega) fun j => ?_
      (try simp (maxSteps := 1000000) (dsimp := false) (disch := (first | omega | (simp only [okR]; done) | (simp only [sizeR] <;> omega) | fail)) only [↓preR, postR, ↓w_stop, Nat.reduceEqDiff, Nat.reduceAdd, Nat.reduceSub, Nat.reduceMul, Int.reduceNeg, Nat.reduceLT, Int.reduceToNat, Nat.reduceLeDiff, Nat.sub_zero])
      exact tail5 _ (h3.up j)
    | false =>
      rw [htb] at g2
      have e : lineT (s.drop i1) wt.tabs = (s.drop i1).take ln := by unfold lineT; rw [hln, htb, if_neg (by decide)]
      rw [e] at tail5
      (try simp (maxSteps := 1000000) (dsimp := false) (disch := (first | omega | (simp only [okR]; done) | (simp only [sizeR] <;> omega) | fail)) only [↓preR, postR, ↓w_stop, Nat.reduceEqDiff, Nat.reduceAdd, Nat.reduceSub, Nat.reduceMul, Int.reduceNeg, Nat.reduceLT, Int.reduceToNat, Nat.reduceLeDiff, Nat.sub_zero, g2])
      exact tail5 _ h3
  clear hJ4
  unfold nextI at tail4
  rw [hln] at tail4
  by_cases hmore : ln < (s.drop i1).length
  · rw [if_pos hmore] at tail4
    have hT : (ln < (s.drop i1).length) = True := eq_true hmore
    (try simp (maxSteps := 1000000) (dsimp := false) (disch := (first | omega | (simp only [okR]; done) | (simp only [sizeR] <;> omega) | fail)) only [↓preR, postR, ↓w_stop, Nat.reduceEqDiff, Nat.reduceAdd, Nat.reduceSub, Nat.reduceMul, Int.reduceNeg, Nat.reduceLT, Int.reduceToNat, Nat.reduceLeDiff, Nat.sub_zero, hT, h2.obj])
    refine tail4 _ ?_
    have e : ((i1 : Int) + (ln : Int) + 1) = ((i1 + ln + 1 : Nat) : Int) := by omega
    rw [← e]
    exact h2.put
  · rw [if_neg hmore] at tail4
    have hT : (ln < (s.drop i1).length) = False := eq_false hmore
    (try simp (maxSteps := 1000000) (dsimp := false) (disch := (first | omega | (simp only [okR]; done) | (simp only [sizeR] <;> omega) | fail)) only [↓preR, postR, ↓w_stop, Nat.reduceEqDiff, Nat.reduceAdd, Nat.reduceSub, Nat.reduceMul, Int.reduceNeg, Nat.reduceLT, Int.reduceToNat, Nat.reduceLeDiff, Nat.sub_zero, hT])
    exact tail4 _ h2
end
end Go.Proofs.YtgijohcmkipkhaaDoor
