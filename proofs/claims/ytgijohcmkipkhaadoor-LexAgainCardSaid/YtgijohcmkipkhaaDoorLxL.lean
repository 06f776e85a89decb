/- A word is taken up. Conditions: as each theorem says. -/
import Derived.Test.YtgijohcmkipkhaaDoorLxK
namespace Go.Proofs.YtgijohcmkipkhaaDoor
open E Go.Lib
open Go.RowKit
set_option linter.unusedVariables false
set_option linter.unusedSimpArgs false
set_option maxHeartbeats 1000000
set_option maxRecDepth 20000

abbrev LxL (p : Nat) (e b : Int) (s : Str) (i dp : Int) (u w : Value) (st : LS) (R : List Ck) : List Ck := Cel p (rdC e b s i dp [u, w]) :: E.Own (α := Tok) u st.out :: E.Own (α := Wt) w st.ws :: R
theorem wd_s {f : Nat} {s : Str} {i : Nat} (h : i < s.length) : wordP (f + 1) s i = if metaB s[i] = true then (i, none) else
      match go FU none (s.drop i) false true false 0 with
      | .ok n => wordP f s (i + n)
      | .bad e k => (i, some (e, i + k))
      | .cut => (i, none) := by
  rw [drop_c h]
  conv => lhs; unfold wordP
  rw [drop_c h]
  rfl
theorem wd_e {f : Nat} {s : Str} {i : Nat} (h : s.length ≤ i) : wordP (f + 1) s i = (i, none) := by
  unfold wordP
  rw [List.drop_of_length_le h]
section
variable {σ σ' : AS} {X : Ce} {R : List Ck} {k : Value → AS → Prop} {p g i j : Nat} {s : Str} {u w : Value} {out : List Tok} {ws : List Wt}
theorem ofWord_io (h : ioB s i j = true) : ofWord s ⟨out, ws, i⟩ j = ⟨out ++ [⟨4, (s.drop i).take (j - i), i, [], some false⟩], ws, j⟩ := by
  unfold ofWord
  exact if_pos h
theorem ofWord_word (h : ioB s i j = false) (hn : ∀ t, out[out.length - 1]? = some t → ¬ (t.kind = 2 ∧ isPre [60, 60] t.text = true)) : ofWord s ⟨out, ws, i⟩ j = ⟨out ++ [⟨1, (s.drop i).take (j - i), i, [], some false⟩], ws, j⟩ := by
  unfold ofWord
  simp only [h, Bool.false_eq_true, if_false]
  cases ho : out[out.length - 1]? with
  | none => rfl
  | some t => exact if_neg (hn t ho)
theorem ofWord_here {t : Tok} (h : ioB s i j = false) (ho : out[out.length - 1]? = some t) (h1 : t.kind = 2) (h2 : isPre [60, 60] t.text = true) : ofWord s ⟨out, ws, i⟩ j =
    ⟨setRaw (out ++ [⟨1, (s.drop i).take (j - i), i, [], some false⟩]) (out.length - 1), ws ++ [⟨out.length - 1, bareP (((s.drop i).take (j - i)).length + 1) false ((s.drop i).take (j - i)), decide (t.text = [60, 60, 45])⟩], j⟩ := by
  unfold ofWord
  simp only [h, Bool.false_eq_true, if_false, ho]
  exact if_pos (And.intro h1 h2)
theorem word_c (hs : s.length ≤ 1000000) (hi : i < s.length) (hol : out.length ≤ 1000000) (hwl : ws.length ≤ 1000000) (h : Hs σ X (LxL p 0 0 s i 0 u w ⟨out, ws, i⟩ R))
    (hk0 : ∀ j, wordP (s.length + 1) s i = (j, none) → ∀ X' u' w' v σ', Ce.le X X' → Hs σ' X' (LxL p 0 0 s j 0 u' w' (ofWord s ⟨out, ws, i⟩ j) R) → k v σ')
    (hk1 : ∀ j e b, wordP (s.length + 1) s i = (j, some (e, b)) → ∀ v σ' (at' dp : Nat), at' ≤ s.length → ¬ e = 0 → Hs σ' X (LxL p e b s at' dp u w ⟨out, ws, i⟩ R) → k v σ') :
    kCall Tryd.prog 23 [pv p] σ k := by
  refine f23 ?_
  generalize hW : wordP (s.length + 1) s i = W at hk0 hk1
  (try simp (maxSteps := 1000000) (dsimp := false) (disch := (first | omega | (simp only [okR]; done) | (simp only [sizeR] <;> omega) | fail)) only [↓preR, postR, ↓w_stop, Nat.reduceEqDiff, Nat.reduceAdd, Nat.reduceSub, Nat.reduceMul, Int.reduceNeg, Nat.reduceLT, Int.reduceToNat, Nat.reduceLeDiff, Nat.sub_zero, F23, h.obj])
  refine join_by fun J1 hJ1 => ?_
  have tailE : ∀ (s1 : AS) (j b at' dp : Nat) (e : Int), W = (j, some (e, b)) → ¬ e = 0 → at' ≤ s.length → Hs s1 X (LxL p e b s at' dp u w ⟨out, ws, i⟩ R) → J1 [] s1 := by
    intro s1 j b at' dp e hWe he hat h1
    refine hJ1 _ _ ?_
    (try simp (maxSteps := 1000000) (dsimp := false) (disch := (first | omega | (simp only [okR]; done) | (simp only [sizeR] <;> omega) | fail)) only [↓preR, postR, ↓w_stop, Nat.reduceEqDiff, Nat.reduceAdd, Nat.reduceSub, Nat.reduceMul, Int.reduceNeg, Nat.reduceLT, Int.reduceToNat, Nat.reduceLeDiff, Nat.sub_zero])
    refine join_now ?_
    (try simp (maxSteps := 1000000) (dsimp := false) (disch := (first | omega | (simp only [okR]; done) | (simp only [sizeR] <;> omega) | fail)) only [↓preR, postR, ↓w_stop, Nat.reduceEqDiff, Nat.reduceAdd, Nat.reduceSub, Nat.reduceMul, Int.reduceNeg, Nat.reduceLT, Int.reduceToNat, Nat.reduceLeDiff, Nat.sub_zero])
    refine wrong_c h1 ?_
    (try simp (maxSteps := 1000000) (dsimp := false) (disch := (first | omega | (simp only [okR]; done) | (simp only [sizeR] <;> omega) | fail)) only [↓preR, postR, ↓w_stop, Nat.reduceEqDiff, Nat.reduceAdd, Nat.reduceSub, Nat.reduceMul, Int.reduceNeg, Nat.reduceLT, Int.reduceToNat, Nat.reduceLeDiff, Nat.sub_zero, he])
    exact hk1 j e b hWe _ _ at' dp hat he h1
  have tail0 : ∀ (s1 : AS) (j : Nat), W = (j, none) → i ≤ j → j ≤ s.length → Hs s1 X (LxL p 0 0 s j 0 u w ⟨out, ws, i⟩ R) → J1 [] s1 := by
    intro s1 j hWj hij hj h1
    refine hJ1 _ _ ?_
    clear hJ1 tailE
    have hk := hk0 j hWj
    clear hk0 hk1 hW hWj h
    (try simp (maxSteps := 1000000) (dsimp := false) (disch := (first | omega | (simp only [okR]; done) | (simp only [sizeR] <;> omega) | fail)) only [↓preR, postR, ↓w_stop, Nat.reduceEqDiff, Nat.reduceAdd, Nat.reduceSub, Nat.reduceMul, Int.reduceNeg, Nat.reduceLT, Int.reduceToNat, Nat.reduceLeDiff, Nat.sub_zero])
    refine join_now ?_
    (try simp (maxSteps := 1000000) (dsimp := false) (disch := (first | omega | (simp only [okR]; done) | (simp only [sizeR] <;> omega) | fail)) only [↓preR, postR, ↓w_stop, Nat.reduceEqDiff, Nat.reduceAdd, Nat.reduceSub, Nat.reduceMul, Int.reduceNeg, Nat.reduceLT, Int.reduceToNat, Nat.reduceLeDiff, Nat.sub_zero])
    refine wrong_c h1 ?_
    generalize hT : (s.drop i).take (j - i) = T
    have h2 : Hs _ X (Cel s1.n (tokC (Tok.mk 1 T i [] (some false)) false) :: LxL p 0 0 s j 0 u w ⟨out, ws, i⟩ R) := (h1.new (cs := [.int .i64 0, .string (bs []), .int .i64 0, .string (bs []), .bool false])).put
    have hTl : T.length = j - i := by rw [← hT, List.length_take, List.length_drop]; omega
    have hz := h1.new (cs := [.int .i64 0, .string (bs []), .int .i64 0, .string (bs []), .bool false])
    (try simp (maxSteps := 1000000) (dsimp := false) (disch := (first | omega | (simp only [okR]; done) | (simp only [sizeR] <;> omega) | fail)) only [↓preR, postR, ↓w_stop, Nat.reduceEqDiff, Nat.reduceAdd, Nat.reduceSub, Nat.reduceMul, Int.reduceNeg, Nat.reduceLT, Int.reduceToNat, Nat.reduceLeDiff, Nat.sub_zero, h1.obj, hT, hz.obj1, h2.obj1])
    generalize AS.put _ _ _ = s2 at h2 ⊢
    generalize s1.n = tp at h2 ⊢
    clear hz h1
    refine join_by fun J3 hJ3 => ?_
    have tail3 : ∀ (s3 : AS) (kd : Int), (kd = if ioB s i j = true then 4 else 1) → Hs s3 X (Cel tp (tokC (Tok.mk kd T i [] (some false)) false) :: LxL p 0 0 s j 0 u w ⟨out, ws, i⟩ R) → J3 [] s3 := by
      intro s3 kd hkd h3
      refine hJ3 _ _ ?_
      clear hJ3 h2
      have h4 : Hs s3 X (E.Own (α := Tok) u out :: Cel tp (tokC (Tok.mk kd T i [] (some false)) false) :: Cel p (rdC 0 0 s j 0 [u, w]) :: E.Own (α := Wt) w ws :: R) := h3.front 2 rfl
      obtain ⟨ux, uc, rfl, _⟩ := h4.own
      have hkd2 : kd = 4 ∨ kd = 1 := by rw [hkd]; split <;> simp
      have hz := h4.new (cs := tokC (Tok.mk kd T i [] (some false)) false)
      have ez := (hz.front 3 rfl).obj
      (try simp (maxSteps := 1000000) (dsimp := false) (disch := (first | omega | (simp only [okR]; done) | (simp only [sizeR] <;> omega) | fail)) only [↓preR, postR, ↓w_stop, Nat.reduceEqDiff, Nat.reduceAdd, Nat.reduceSub, Nat.reduceMul, Int.reduceNeg, Nat.reduceLT, Int.reduceToNat, Nat.reduceLeDiff, Nat.sub_zero, h3.obj, h3.obj1, ez])
      refine push_by h4 (e := 28) (bytes := 56) (by kernel_rfl) (by kernel_rfl) (a := (Tok.mk kd T i [] (some false))) ⟨false, rfl, fun x hx => by cases hx; rfl, by unfold inI64; show -9223372036854775808 ≤ kd ∧ kd ≤ 9223372036854775807; omega, by show i ≤ 1000000; omega, by show T.length ≤ 1000000; omega, by simp⟩ (by omega) (by unfold maxLen; omega) fun v' s5 h5 => ?_
      obtain ⟨vx, vc, rfl, _⟩ := h5.own
      have h6 : Hs s5 X (Cel p (rdC 0 0 s j 0 [.slice ux out.length uc, w]) :: E.Own (α := Tok) (.slice vx (out ++ [(Tok.mk kd T i [] (some false))]).length vc) (out ++ [(Tok.mk kd T i [] (some false))]) :: Cel tp (tokC (Tok.mk kd T i [] (some false)) false) :: E.Own (α := Wt) w ws :: R) := h5.front 2 rfl
      have h7 := h6.put (cs' := rdC 0 0 s j 0 [.slice vx (out ++ [(Tok.mk kd T i [] (some false))]).length vc, w])
      have el : (out ++ [(Tok.mk kd T i [] (some false))] : List Tok).length = out.length + 1 := by simp
      rw [el] at h7
      have e7 := (h7.front 2 rfl).obj
      have done : ∀ (s6 : AS), Hs s6 X (Cel p (rdC 0 0 s j 0 [.slice vx (out.length + 1) vc, w]) :: E.Own (α := Tok) (.slice vx (out.length + 1) vc) (out ++ [(Tok.mk kd T i [] (some false))]) :: Cel tp (tokC (Tok.mk kd T i [] (some false)) false) :: E.Own (α := Wt) w ws :: R) →
          ofWord s ⟨out, ws, i⟩ j = ⟨out ++ [(Tok.mk kd T i [] (some false))], ws, j⟩ → k undef s6 := by
        intro s6 h8 he
        refine hk X (.slice vx (out.length + 1) vc) w undef s6 (Ce.le_refl _) ?_
        rw [he]
        exact ((h8.front 2 rfl).drop)
      (try simp (maxSteps := 1000000) (dsimp := false) (disch := (first | omega | (simp only [okR]; done) | (simp only [sizeR] <;> omega) | fail)) only [↓preR, postR, ↓w_stop, Nat.reduceEqDiff, Nat.reduceAdd, Nat.reduceSub, Nat.reduceMul, Int.reduceNeg, Nat.reduceLT, Int.reduceToNat, Nat.reduceLeDiff, Nat.sub_zero, h6.obj, h7.obj, e7, el])
      generalize AS.put _ _ _ = s6 at h7 e7 ⊢
      clear h6 h5 h4 h3 hz ez
      cases hio : ioB s i j with
      | true =>
        rw [hio, if_pos rfl] at hkd
        subst hkd
        (try simp (maxSteps := 1000000) (dsimp := false) (disch := (first | omega | (simp only [okR]; done) | (simp only [sizeR] <;> omega) | fail)) only [↓preR, postR, ↓w_stop, Nat.reduceEqDiff, Nat.reduceAdd, Nat.reduceSub, Nat.reduceMul, Int.reduceNeg, Nat.reduceLT, Int.reduceToNat, Nat.reduceLeDiff, Nat.sub_zero])
        exact done s6 h7 (by rw [ofWord_io hio, hT])
      | false =>
        rw [hio, if_neg (by decide)] at hkd
        subst hkd
        by_cases hoz : out.length = 0
        · have : out = [] := List.eq_nil_of_length_eq_zero hoz
          subst this
          (try simp (maxSteps := 1000000) (dsimp := false) (disch := (first | omega | (simp only [okR]; done) | (simp only [sizeR] <;> omega) | fail)) only [↓preR, postR, ↓w_stop, Nat.reduceEqDiff, Nat.reduceAdd, Nat.reduceSub, Nat.reduceMul, Int.reduceNeg, Nat.reduceLT, Int.reduceToNat, Nat.reduceLeDiff, Nat.sub_zero, h7.obj, e7])
          exact done s6 h7 (by rw [ofWord_word hio (fun t ht => by cases ht), hT])
        have hlt : out.length - 1 < (out ++ [(Tok.mk 1 T i [] (some false))] : List Tok).length := by rw [el]; omega
        have hget : (out ++ [(Tok.mk 1 T i [] (some false))] : List Tok)[out.length - 1] = out[out.length - 1] := List.getElem_append_left (by omega)
        have ho : out[out.length - 1]? = some out[out.length - 1] := List.getElem?_eq_getElem (by omega)
        have h8 := h7.swap
        obtain ⟨tg, tc, ys, b', e1, hc1, hc2, hm, hyl, hP, y0, y1, y2, y3, y4, _, hset⟩ := tok_at h8 hlt
        rw [el] at e1
        injection e1 with e1 _ e2
        subst e1
        subst e2
        rw [hget] at hP y0 y1
        have nI : ((out.length : Int) + 1 - 2) = ((out.length - 1 : Nat) : Int) := by omega
        have nI2 : (((out.length + 1 : Nat) : Int) - 2) = ((out.length - 1 : Nat) : Int) := by omega
        have nN : out.length + 1 - 2 = out.length - 1 := by omega
        have nP : (0 : Int) ≤ ((out.length - 1 : Nat) : Int) := by omega
        by_cases hk2 : out[out.length - 1].kind = 2
        rotate_left
        · (try simp (maxSteps := 1000000) (dsimp := false) (disch := (first | omega | (simp only [okR]; done) | (simp only [sizeR] <;> omega) | fail)) only [↓preR, postR, ↓w_stop, Nat.reduceEqDiff, Nat.reduceAdd, Nat.reduceSub, Nat.reduceMul, Int.reduceNeg, Nat.reduceLT, Int.reduceToNat, Nat.reduceLeDiff, Nat.sub_zero, nI, nN, nP, h7.obj, e7, hm, y0, hk2])
          exact done s6 h7 (by rw [ofWord_word hio (fun t ht => by rw [ho] at ht; cases ht; exact fun h => hk2 h.1), hT])
        have hkT : (out[out.length - 1].kind = 2) = True := eq_true hk2
        (try simp (maxSteps := 1000000) (dsimp := false) (disch := (first | omega | (simp only [okR]; done) | (simp only [sizeR] <;> omega) | fail)) only [↓preR, postR, ↓w_stop, Nat.reduceEqDiff, Nat.reduceAdd, Nat.reduceSub, Nat.reduceMul, Int.reduceNeg, Nat.reduceLT, Int.reduceToNat, Nat.reduceLeDiff, Nat.sub_zero, nI, nN, nP, h7.obj, e7, hm, y0, hkT, y1])
        refine pref_c (s := out[out.length - 1].text) (pre := [60, 60]) (by have := hP.2.2.2.1; unfold maxLen; omega) ?_
        by_cases hpre : isPre [60, 60] out[out.length - 1].text = true
        rotate_left
        · have hpF : (out[out.length - 1].text.take 2 = [60, 60]) = False := eq_false (fun h => hpre (by unfold isPre; exact decide_eq_true h))
          (try simp (maxSteps := 1000000) (dsimp := false) (disch := (first | omega | (simp only [okR]; done) | (simp only [sizeR] <;> omega) | fail)) only [↓preR, postR, ↓w_stop, Nat.reduceEqDiff, Nat.reduceAdd, Nat.reduceSub, Nat.reduceMul, Int.reduceNeg, Nat.reduceLT, Int.reduceToNat, Nat.reduceLeDiff, Nat.sub_zero, hpF])
          exact done s6 h7 (by rw [ofWord_word hio (fun t ht => by rw [ho] at ht; cases ht; exact fun h => hpre h.2), hT])
        have hpT : (out[out.length - 1].text.take 2 = [60, 60]) = True := eq_true (by unfold isPre at hpre; exact of_decide_eq_true hpre)
        (try simp (maxSteps := 1000000) (dsimp := false) (disch := (first | omega | (simp only [okR]; done) | (simp only [sizeR] <;> omega) | fail)) only [↓preR, postR, ↓w_stop, Nat.reduceEqDiff, Nat.reduceAdd, Nat.reduceSub, Nat.reduceMul, Int.reduceNeg, Nat.reduceLT, Int.reduceToNat, Nat.reduceLeDiff, Nat.sub_zero, hpT, h7.obj, e7])
        refine anyq_c (by omega) h7 fun bb s7 h9 => ?_
        have e9 := (h9.front 2 rfl).obj
        obtain ⟨tg', tc', ys', b'', f1, _, _, hm', hyl', _, _, _, _, _, _, _, hset'⟩ := tok_at h9.swap hlt
        rw [el] at f1
        injection f1 with f1 _ _
        injection f1 with f1
        injection f1 with f1 _ _
        subst f1
        have h10 := (hset' bb).swap
        have hL' : (out ++ [(Tok.mk 1 T i [] (some false))] : List Tok).set (out.length - 1) ⟨(out ++ [(Tok.mk 1 T i [] (some false))] : List Tok)[out.length - 1].kind, (out ++ [(Tok.mk 1 T i [] (some false))] : List Tok)[out.length - 1].text, (out ++ [(Tok.mk 1 T i [] (some false))] : List Tok)[out.length - 1].at', (out ++ [(Tok.mk 1 T i [] (some false))] : List Tok)[out.length - 1].body, none⟩ = setRaw (out ++ [(Tok.mk 1 T i [] (some false))]) (out.length - 1) := by
          unfold setRaw
          rw [List.getElem?_eq_getElem hlt]
        rw [hL'] at h10
        have el' : (setRaw (out ++ [(Tok.mk 1 T i [] (some false))]) (out.length - 1)).length = out.length + 1 := by rw [← hL', List.length_set, el]
        have hlt' : out.length - 1 < (setRaw (out ++ [(Tok.mk 1 T i [] (some false))]) (out.length - 1)).length := by rw [el']; omega
        have hget' : (setRaw (out ++ [(Tok.mk 1 T i [] (some false))]) (out.length - 1))[out.length - 1].text = out[out.length - 1].text := by
          have gen : ∀ (B M : List Tok) (t : Tok) (n : Nat), n < B.length → B.set n t = M → ∀ h : n < M.length, M[n].text = t.text := by
            rintro B _ t n hB rfl h
            simp
          rw [gen _ _ _ _ hlt hL' hlt', hget]
        clear hL'
        (try simp (maxSteps := 1000000) (dsimp := false) (disch := (first | omega | (simp only [okR]; done) | (simp only [sizeR] <;> omega) | fail)) only [↓preR, postR, ↓w_stop, Nat.reduceEqDiff, Nat.reduceAdd, Nat.reduceSub, Nat.reduceMul, Int.reduceNeg, Nat.reduceLT, Int.reduceToNat, Nat.reduceLeDiff, Nat.sub_zero, nI, nN, h9.obj, e9, hm'])
        generalize AS.put _ _ _ = s8 at h10 ⊢
        generalize hLL : setRaw (out ++ [(Tok.mk 1 T i [] (some false))]) (out.length - 1) = LL at h10 el' hlt' hget' hk
        have e10 := (h10.front 2 rfl).obj
        obtain ⟨tg'', tc'', ys'', b3, f1, _, _, hm3, hyl3, hP3, _, y13, _, _, _, _, _⟩ := tok_at h10.swap hlt'
        rw [el'] at f1
        injection f1 with f1 _ _
        injection f1 with f1
        injection f1 with f1 _ _
        subst f1
        rw [hget'] at y13
        (try simp (maxSteps := 1000000) (dsimp := false) (disch := (first | omega | (simp only [okR]; done) | (simp only [sizeR] <;> omega) | fail)) only [↓preR, postR, ↓w_stop, Nat.reduceEqDiff, Nat.reduceAdd, Nat.reduceSub, Nat.reduceMul, Int.reduceNeg, Nat.reduceLT, Int.reduceToNat, Nat.reduceLeDiff, Nat.sub_zero, nI, nN, h10.obj, e10, hm3, y13])
        refine bare_c (by omega) h10 fun s9 h11 => ?_
        have e11 := (h11.front 2 rfl).obj
        obtain ⟨tg4, tc4, ys4, b4, f1, _, _, hm4, hyl4, hP4, _, y14, _, _, _, _, _⟩ := tok_at h11.swap hlt'
        rw [el'] at f1
        injection f1 with f1 _ _
        injection f1 with f1
        injection f1 with f1 _ _
        subst f1
        rw [hget'] at y14
        have hW11 : Hs s9 X (E.Own (α := Wt) w ws :: Cel p (rdC 0 0 s j 0 [.slice (some ⟨tg, 0, none⟩) (out.length + 1) vc, w]) :: E.Own (α := Tok) (.slice (some ⟨tg, 0, none⟩) (out.length + 1) vc) LL :: Cel tp (tokC (Tok.mk 1 T i [] (some false)) false) :: R) := h11.front 3 rfl
        obtain ⟨wx, wc, rfl, _⟩ := hW11.own
        have h12 := hW11.new (cs := [.int .i64 ((out.length - 1 : Nat) : Int), .string (bs (bareP (T.length + 1) false T)), .bool (decide (out[out.length - 1].text = [60, 60, 45]))])
        have e12 := (h12.front 2 rfl).obj
        (try simp (maxSteps := 1000000) (dsimp := false) (disch := (first | omega | (simp only [okR]; done) | (simp only [sizeR] <;> omega) | fail)) only [↓preR, postR, ↓w_stop, Nat.reduceEqDiff, Nat.reduceAdd, Nat.reduceSub, Nat.reduceMul, Int.reduceNeg, Nat.reduceLT, Int.reduceToNat, Nat.reduceLeDiff, Nat.sub_zero, nI, nI2, nN, h11.obj, e11, hm4, y14, e12])
        generalize AS.new s9 _ = s10 at h12 e12 ⊢
        generalize s9.n = hb at h12 ⊢
        obtain ⟨X', hle, hX, h13⟩ := h12.freeze
        have hz2 := h13.new (cs := [.pointer (some ⟨hb, 0, none⟩)])
        have e13 := (hz2.front 2 rfl).obj
        (try simp (maxSteps := 1000000) (dsimp := false) (disch := (first | omega | (simp only [okR]; done) | (simp only [sizeR] <;> omega) | fail)) only [↓preR, postR, ↓w_stop, Nat.reduceEqDiff, Nat.reduceAdd, Nat.reduceSub, Nat.reduceMul, Int.reduceNeg, Nat.reduceLT, Int.reduceToNat, Nat.reduceLeDiff, Nat.sub_zero, e12, e13])
        refine push_by h13 (e := 45) (bytes := 8) (by kernel_rfl) (by kernel_rfl) (a := ⟨out.length - 1, bareP (T.length + 1) false T, decide (out[out.length - 1].text = [60, 60, 45])⟩) ⟨hb, rfl, hX 0 _ rfl, hX 1 _ rfl, hX 2 _ rfl, by have := bareP_len (T.length + 1) false T; show (bareP (T.length + 1) false T).length ≤ 1000000; omega⟩ (by omega) (by unfold maxLen; omega) fun v'' s11 h14 => ?_
        obtain ⟨yx, yc, rfl, _⟩ := h14.own
        have h15 := h14.swap.put (cs' := rdC 0 0 s j 0 [.slice (some ⟨tg, 0, none⟩) (out.length + 1) vc, .slice yx (ws ++ [Wt.mk (out.length - 1) (bareP (T.length + 1) false T) (decide (out[out.length - 1].text = [60, 60, 45]))]).length yc])
        (try simp (maxSteps := 1000000) (dsimp := false) (disch := (first | omega | (simp only [okR]; done) | (simp only [sizeR] <;> omega) | fail)) only [↓preR, postR, ↓w_stop, Nat.reduceEqDiff, Nat.reduceAdd, Nat.reduceSub, Nat.reduceMul, Int.reduceNeg, Nat.reduceLT, Int.reduceToNat, Nat.reduceLeDiff, Nat.sub_zero, h14.swap.obj])
        refine hk X' (.slice (some ⟨tg, 0, none⟩) (out.length + 1) vc) (.slice yx (ws ++ [Wt.mk (out.length - 1) (bareP (T.length + 1) false T) (decide (out[out.length - 1].text = [60, 60, 45]))]).length yc) undef _ hle ?_
        rw [ofWord_here hio ho hk2 hpre, hT, hLL]
        have h16 := h15.front 3 rfl
        exact (h16.drop.front 2 rfl).front 1 rfl
    clear hJ3
    by_cases hjl : j < s.length
    rotate_left
    · have hio : ioB s i j = false := by unfold ioB; rw [List.drop_of_length_le (by omega)]; rfl
      rw [hio, if_neg (by decide)] at tail3
      (try simp (maxSteps := 1000000) (dsimp := false) (disch := (first | omega | (simp only [okR]; done) | (simp only [sizeR] <;> omega) | fail)) only [↓preR, postR, ↓w_stop, Nat.reduceEqDiff, Nat.reduceAdd, Nat.reduceSub, Nat.reduceMul, Int.reduceNeg, Nat.reduceLT, Int.reduceToNat, Nat.reduceLeDiff, Nat.sub_zero, h2.obj1])
      exact tail3 s2 1 rfl h2
    have hio : ioB s i j = ((decide (s[j] = 60) || decide (s[j] = 62)) && decide (trimS T digs = [])) := by unfold ioB; rw [drop_c hjl, hT]
    (try simp (maxSteps := 1000000) (dsimp := false) (disch := (first | omega | (simp only [okR]; done) | (simp only [sizeR] <;> omega) | fail)) only [↓preR, postR, ↓w_stop, Nat.reduceEqDiff, Nat.reduceAdd, Nat.reduceSub, Nat.reduceMul, Int.reduceNeg, Nat.reduceLT, Int.reduceToNat, Nat.reduceLeDiff, Nat.sub_zero, h2.obj1, getd hjl])
    refine idx_c (c := s[j]) rfl ?_
    have hpos : posB s[j] [60, 62] = if s[j] = 60 then some 0 else if s[j] = 62 then some 1 else none := by
      by_cases c1 : s[j] = 60
      · rw [c1]; rfl
      · by_cases c2 : s[j] = 62
        · rw [c2]; rfl
        · have n1 : ¬ (60 : UInt8) = s[j] := fun h => c1 h.symm
          have n2 : ¬ (62 : UInt8) = s[j] := fun h => c2 h.symm
          rw [if_neg c1, if_neg c2]
          unfold posB
          rw [if_neg n1]
          unfold posB
          rw [if_neg n2]
          rfl
    have yes : ∀ (n : Nat), (decide (s[j] = 60) || decide (s[j] = 62)) = true → posB s[j] [60, 62] = some n → True := fun _ _ _ => trivial
    clear yes
    cases hp : posB s[j] [60, 62] with
    | none =>
      have hno : (decide (s[j] = 60) || decide (s[j] = 62)) = false := by
        rw [hpos] at hp
        by_cases c1 : s[j] = 60
        · rw [if_pos c1] at hp; cases hp
        · rw [if_neg c1] at hp
          by_cases c2 : s[j] = 62
          · rw [if_pos c2] at hp; cases hp
          · simp [c1, c2]
      rw [hno, Bool.false_and] at hio
      rw [hio, if_neg (by decide)] at tail3
      (try simp (maxSteps := 1000000) (dsimp := false) (disch := (first | omega | (simp only [okR]; done) | (simp only [sizeR] <;> omega) | fail)) only [↓preR, postR, ↓w_stop, Nat.reduceEqDiff, Nat.reduceAdd, Nat.reduceSub, Nat.reduceMul, Int.reduceNeg, Nat.reduceLT, Int.reduceToNat, Nat.reduceLeDiff, Nat.sub_zero])
      exact tail3 s2 1 rfl h2
    | some n =>
      have hyes : (decide (s[j] = 60) || decide (s[j] = 62)) = true := by
        rw [hpos] at hp
        by_cases c1 : s[j] = 60
        · simp [c1]
        · rw [if_neg c1] at hp
          by_cases c2 : s[j] = 62
          · simp [c2]
          · rw [if_neg c2] at hp; cases hp
      rw [hyes, Bool.true_and] at hio
      (try simp (maxSteps := 1000000) (dsimp := false) (disch := (first | omega | (simp only [okR]; done) | (simp only [sizeR] <;> omega) | fail)) only [↓preR, postR, ↓w_stop, Nat.reduceEqDiff, Nat.reduceAdd, Nat.reduceSub, Nat.reduceMul, Int.reduceNeg, Nat.reduceLT, Int.reduceToNat, Nat.reduceLeDiff, Nat.sub_zero, h2.obj])
      refine trim_c (by unfold maxLen; omega) fun jj => ?_
      have h3 := h2.up jj
      by_cases htr : trimS T digs = []
      · have hT2 : (trimS T digs = []) = True := eq_true htr
        rw [htr] at hio
        rw [hio, if_pos (by rfl)] at tail3
        (try simp (maxSteps := 1000000) (dsimp := false) (disch := (first | omega | (simp only [okR]; done) | (simp only [sizeR] <;> omega) | fail)) only [↓preR, postR, ↓w_stop, Nat.reduceEqDiff, Nat.reduceAdd, Nat.reduceSub, Nat.reduceMul, Int.reduceNeg, Nat.reduceLT, Int.reduceToNat, Nat.reduceLeDiff, Nat.sub_zero, hT2, h3.obj])
        exact tail3 _ 4 rfl h3.put
      · have hF2 : (trimS T digs = []) = False := eq_false htr
        rw [decide_eq_false htr] at hio
        rw [hio, if_neg (by decide)] at tail3
        (try simp (maxSteps := 1000000) (dsimp := false) (disch := (first | omega | (simp only [okR]; done) | (simp only [sizeR] <;> omega) | fail)) only [↓preR, postR, ↓w_stop, Nat.reduceEqDiff, Nat.reduceAdd, Nat.reduceSub, Nat.reduceMul, Int.reduceNeg, Nat.reduceLT, Int.reduceToNat, Nat.reduceLeDiff, Nat.sub_zero, hF2])
        exact tail3 _ 1 rfl h3
  clear hJ1
  (try simp (maxSteps := 1000000) (dsimp := false) (disch := (first | omega | (simp only [okR]; done) | (simp only [sizeR] <;> omega) | fail)) only [↓preR, postR, ↓w_stop, Nat.reduceEqDiff, Nat.reduceAdd, Nat.reduceSub, Nat.reduceMul, Int.reduceNeg, Nat.reduceLT, Int.reduceToNat, Nat.reduceLeDiff, Nat.sub_zero])
  refine loop_inv (fun nn xs s1 => (∃ (i1 f : Nat), i ≤ i1 ∧ i1 ≤ s.length ∧ s.length - i1 < f ∧ wordP f s i1 = W ∧ Hs s1 X (LxL p 0 0 s i1 0 u w ⟨out, ws, i⟩ R) ∧ nn = s.length - i1 + 1) ∨
      (∃ (j b at' dp : Nat) (e : Int), W = (j, some (e, b)) ∧ ¬ e = 0 ∧ at' ≤ s.length ∧ Hs s1 X (LxL p e b s at' dp u w ⟨out, ws, i⟩ R) ∧ nn = 0)) _
    (.inl ⟨i, s.length + 1, Nat.le_refl _, Nat.le_of_lt hi, by omega, hW, h, rfl⟩) ?_
  rintro _ _ s1 again (⟨i1, f, hi0, hi1, hf, hw1, h1, rfl⟩ | ⟨j, b, at', dp, e, hWe, he, hat, h1, rfl⟩) hag
  rotate_left
  · (try simp (maxSteps := 1000000) (dsimp := false) (disch := (first | omega | (simp only [okR]; done) | (simp only [sizeR] <;> omega) | fail)) only [↓preR, postR, ↓w_stop, Nat.reduceEqDiff, Nat.reduceAdd, Nat.reduceSub, Nat.reduceMul, Int.reduceNeg, Nat.reduceLT, Int.reduceToNat, Nat.reduceLeDiff, Nat.sub_zero])
    refine join_now ?_
    by_cases hlt : at' < s.length
    · (try simp (maxSteps := 1000000) (dsimp := false) (disch := (first | omega | (simp only [okR]; done) | (simp only [sizeR] <;> omega) | fail)) only [↓preR, postR, ↓w_stop, Nat.reduceEqDiff, Nat.reduceAdd, Nat.reduceSub, Nat.reduceMul, Int.reduceNeg, Nat.reduceLT, Int.reduceToNat, Nat.reduceLeDiff, Nat.sub_zero, h1.obj])
      refine meta_c rfl h1 fun s2 h2 => ?_
      cases hm : metaB ((s[at']?).getD 0) with
      | true =>
        (try simp (maxSteps := 1000000) (dsimp := false) (disch := (first | omega | (simp only [okR]; done) | (simp only [sizeR] <;> omega) | fail)) only [↓preR, postR, ↓w_stop, Nat.reduceEqDiff, Nat.reduceAdd, Nat.reduceSub, Nat.reduceMul, Int.reduceNeg, Nat.reduceLT, Int.reduceToNat, Nat.reduceLeDiff, Nat.sub_zero, hm])
        exact tailE s2 j b at' dp e hWe he hat h2
      | false =>
        (try simp (maxSteps := 1000000) (dsimp := false) (disch := (first | omega | (simp only [okR]; done) | (simp only [sizeR] <;> omega) | fail)) only [↓preR, postR, ↓w_stop, Nat.reduceEqDiff, Nat.reduceAdd, Nat.reduceSub, Nat.reduceMul, Int.reduceNeg, Nat.reduceLT, Int.reduceToNat, Nat.reduceLeDiff, Nat.sub_zero, hm])
        refine wrong_c h2 ?_
        (try simp (maxSteps := 1000000) (dsimp := false) (disch := (first | omega | (simp only [okR]; done) | (simp only [sizeR] <;> omega) | fail)) only [↓preR, postR, ↓w_stop, Nat.reduceEqDiff, Nat.reduceAdd, Nat.reduceSub, Nat.reduceMul, Int.reduceNeg, Nat.reduceLT, Int.reduceToNat, Nat.reduceLeDiff, Nat.sub_zero, he])
        exact tailE s2 j b at' dp e hWe he hat h2
    · (try simp (maxSteps := 1000000) (dsimp := false) (disch := (first | omega | (simp only [okR]; done) | (simp only [sizeR] <;> omega) | fail)) only [↓preR, postR, ↓w_stop, Nat.reduceEqDiff, Nat.reduceAdd, Nat.reduceSub, Nat.reduceMul, Int.reduceNeg, Nat.reduceLT, Int.reduceToNat, Nat.reduceLeDiff, Nat.sub_zero, h1.obj])
      exact tailE s1 j b at' dp e hWe he hat h1
  obtain ⟨f, rfl⟩ : ∃ f', f = f' + 1 := ⟨f - 1, by omega⟩
  (try simp (maxSteps := 1000000) (dsimp := false) (disch := (first | omega | (simp only [okR]; done) | (simp only [sizeR] <;> omega) | fail)) only [↓preR, postR, ↓w_stop, Nat.reduceEqDiff, Nat.reduceAdd, Nat.reduceSub, Nat.reduceMul, Int.reduceNeg, Nat.reduceLT, Int.reduceToNat, Nat.reduceLeDiff, Nat.sub_zero])
  refine join_now ?_
  by_cases hlt : i1 < s.length
  rotate_left
  · rw [wd_e (by omega)] at hw1
    (try simp (maxSteps := 1000000) (dsimp := false) (disch := (first | omega | (simp only [okR]; done) | (simp only [sizeR] <;> omega) | fail)) only [↓preR, postR, ↓w_stop, Nat.reduceEqDiff, Nat.reduceAdd, Nat.reduceSub, Nat.reduceMul, Int.reduceNeg, Nat.reduceLT, Int.reduceToNat, Nat.reduceLeDiff, Nat.sub_zero, h1.obj])
    exact tail0 s1 i1 hw1.symm hi0 hi1 h1
  rw [wd_s hlt] at hw1
  (try simp (maxSteps := 1000000) (dsimp := false) (disch := (first | omega | (simp only [okR]; done) | (simp only [sizeR] <;> omega) | fail)) only [↓preR, postR, ↓w_stop, Nat.reduceEqDiff, Nat.reduceAdd, Nat.reduceSub, Nat.reduceMul, Int.reduceNeg, Nat.reduceLT, Int.reduceToNat, Nat.reduceLeDiff, Nat.sub_zero, h1.obj])
  refine meta_c rfl h1 fun s2 h2 => ?_
  rw [getd hlt]
  cases hm : metaB s[i1] with
  | true =>
    rw [if_pos hm] at hw1
    (try simp (maxSteps := 1000000) (dsimp := false) (disch := (first | omega | (simp only [okR]; done) | (simp only [sizeR] <;> omega) | fail)) only [↓preR, postR, ↓w_stop, Nat.reduceEqDiff, Nat.reduceAdd, Nat.reduceSub, Nat.reduceMul, Int.reduceNeg, Nat.reduceLT, Int.reduceToNat, Nat.reduceLeDiff, Nat.sub_zero, hm])
    exact tail0 s2 i1 hw1.symm hi0 hi1 h2
  | false =>
    rw [if_neg (by rw [hm]; decide)] at hw1
    (try simp (maxSteps := 1000000) (dsimp := false) (disch := (first | omega | (simp only [okR]; done) | (simp only [sizeR] <;> omega) | fail)) only [↓preR, postR, ↓w_stop, Nat.reduceEqDiff, Nat.reduceAdd, Nat.reduceSub, Nat.reduceMul, Int.reduceNeg, Nat.reduceLT, Int.reduceToNat, Nat.reduceLeDiff, Nat.sub_zero, hm])
    refine wrong_c h2 ?_
    (try simp (maxSteps := 1000000) (dsimp := false) (disch := (first | omega | (simp only [okR]; done) | (simp only [sizeR] <;> omega) | fail)) only [↓preR, postR, ↓w_stop, Nat.reduceEqDiff, Nat.reduceAdd, Nat.reduceSub, Nat.reduceMul, Int.reduceNeg, Nat.reduceLT, Int.reduceToNat, Nat.reduceLeDiff, Nat.sub_zero])
    refine thing_c FU (q := false) (d := true) (b := false) (bat := 0) (deep := 0) (rest := [u, w]) (by show _ ≤ 2100000; omega) hlt (by omega) hs h2 ?_
    cases hg : go FU none (s.drop i1) false true false 0 with
    | ok n =>
      rw [hg] at hw1
      have hgo := go_ok hg
      rw [List.length_drop] at hgo
      intro v s3 h3
      exact hag _ _ _ (.inl ⟨i1 + n, f, by omega, by omega, by omega, hw1, h3, rfl⟩) (by omega)
    | bad e b =>
      rw [hg] at hw1
      have hgo := go_bad hg
      have he : ¬ e = 0 := by rcases hgo.2 with h | h | h <;> omega
      intro v s3 at' dp hat h3
      exact hag _ _ _ (.inr ⟨i1, i1 + b, at', dp, e, hw1.symm, he, hat, h3, rfl⟩) (by omega)
    | cut => trivial
end
end Go.Proofs.YtgijohcmkipkhaaDoor
