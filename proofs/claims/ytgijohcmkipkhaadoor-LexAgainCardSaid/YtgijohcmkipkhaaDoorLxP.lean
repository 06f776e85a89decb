/- Tokens stand in the text. Conditions: none. -/
import Derived.Test.YtgijohcmkipkhaaDoorLxO
namespace Go.Proofs.YtgijohcmkipkhaaDoor
open E Go.Lib
open Go.RowKit
set_option linter.unusedVariables false
set_option linter.unusedSimpArgs false
set_option maxHeartbeats 1000000
set_option maxRecDepth 20000

/-- Texts and places stand in the text, in order, up to e. -/
def SI (s : Str) (l : List (Str × Nat)) (e : Nat) : Prop := ∀ j (hj : j < l.length), l[j].1 ≠ [] ∧ l[j].2 + l[j].1.length ≤ e ∧ (s.drop l[j].2).take l[j].1.length = l[j].1 ∧ ∀ i (hi : i < j), (l[i]'(by omega)).2 + (l[i]'(by omega)).1.length ≤ l[j].2
def sk (L : List Tok) : List (Str × Nat) := L.map fun t => (t.text, t.at')
section
variable {s : Str} {l : List (Str × Nat)} {e e' i : Nat} {t : Str} {L : List Tok} {n : Nat} {b : Str}
theorem SI.nil : SI s [] e := fun j hj => by cases hj
theorem SI.mono (h : SI s l e) (he : e ≤ e') : SI s l e' := fun j hj => by
  obtain ⟨h1, h2, h3, h4⟩ := h j hj
  exact ⟨h1, by omega, h3, h4⟩
theorem SI.snoc (h : SI s l i) (ht : t ≠ []) (hs : (s.drop i).take t.length = t) (he : i + t.length ≤ e) : SI s (l ++ [(t, i)]) e := by
  intro j hj
  by_cases hlt : j < l.length
  · obtain ⟨h1, h2, h3, h4⟩ := h j hlt
    have g : ∀ a (ha : a < l.length) (ha' : a < (l ++ [(t, i)]).length), (l ++ [(t, i)])[a] = l[a] := fun a ha ha' => List.getElem_append_left ha
    rw [g j hlt hj]
    refine ⟨h1, by omega, h3, fun a ha => ?_⟩
    rw [g a (by omega) (by omega)]
    exact h4 a ha
  · have hjl : j = l.length := by simp at hj; omega
    subst hjl
    have g : (l ++ [(t, i)])[l.length] = (t, i) := by simp
    rw [g]
    refine ⟨ht, he, hs, fun a ha => ?_⟩
    have g2 : (l ++ [(t, i)])[a]'(by simp; omega) = l[a] := List.getElem_append_left ha
    rw [g2]
    exact (h a ha).2.1
theorem sk_snoc {t : Tok} : sk (L ++ [t]) = sk L ++ [(t.text, t.at')] := by simp [sk]
theorem sk_body : sk (setBody L n b) = sk L := by
  unfold setBody sk
  split
  · rename_i t ht
    rw [List.map_set]
    apply List.ext_getElem?
    intro j
    rw [List.getElem?_set]
    split
    · rename_i hj
      subst hj
      have := (List.getElem?_eq_some_iff.1 ht).1
      simp [this, ht, List.getElem?_map]
      rw [(List.getElem?_eq_some_iff.1 ht).2]
      exact ⟨rfl, rfl⟩
    · rfl
  · rfl
theorem sk_raw : sk (setRaw L n) = sk L := by
  unfold setRaw sk
  split
  · rename_i t ht
    rw [List.map_set]
    apply List.ext_getElem?
    intro j
    rw [List.getElem?_set]
    split
    · rename_i hj
      subst hj
      have := (List.getElem?_eq_some_iff.1 ht).1
      simp [this, ht, List.getElem?_map]
      rw [(List.getElem?_eq_some_iff.1 ht).2]
      exact ⟨rfl, rfl⟩
    · rfl
  · rfl
theorem atOf_lt (h : SI s (sk L) e) (he : e ≤ s.length) (hn : n < L.length) : atOf L n < s.length := by
  have hn' : n < (sk L).length := by simpa [sk] using hn
  obtain ⟨h1, h2, _⟩ := h n hn'
  have g : (sk L)[n] = (L[n].text, L[n].at') := by simp [sk]
  rw [g] at h1 h2
  simp only at h1 h2
  unfold atOf
  rw [List.getElem?_eq_getElem hn]
  have := List.length_pos_iff.2 h1
  simp only
  omega
theorem sk_heres : ∀ {ws : List Wt} {out : List Tok} {i : Nat} {o' : List Tok} {i' : Nat} {e : Option (Int × Nat)}, heres s out i ws = (o', i', e) → sk o' = sk out ∧ (∀ x b, e = some (x, b) → ∃ w, w ∈ ws ∧ b = atOf o' w.op)
  | [], out, i, o', i', e, h => by cases h; exact ⟨rfl, fun x b h => by cases h⟩
  | w :: ws, out, i, o', i', e, h => by
    rw [heres_c] at h
    split at h
    · obtain ⟨h1, h2⟩ := sk_heres h
      refine ⟨h1.trans sk_body, fun x b hb => ?_⟩
      obtain ⟨w', hw, h3⟩ := h2 x b hb
      exact ⟨w', by simp [hw], h3⟩
    · cases h
      exact ⟨rfl, fun x b hb => by cases hb; exact ⟨w, by simp, rfl⟩⟩
theorem wordP_bad : ∀ {f i j : Nat} {x : Int} {b : Nat}, wordP f s i = (j, some (x, b)) → b < s.length ∧ ¬ x = 0
  | 0, i, j, x, b, h => by cases h
  | f + 1, i, j, x, b, h => by
    by_cases hlt : i < s.length
    · rw [wd_s hlt] at h
      split at h
      · cases h
      · split at h
        · exact wordP_bad h
        · rename_i e k hk
          cases h
          have h1 := go_bad hk
          rw [List.length_drop] at h1
          exact ⟨by omega, by rcases h1.2 with h | h | h <;> omega⟩
        · cases h
    · rw [wd_e (by omega)] at h; cases h
theorem ofWord_sk (st : LS) (j : Nat) : sk (ofWord s st j).out = sk st.out ++ [((s.drop st.i).take (j - st.i), st.i)] := by
  unfold ofWord
  dsimp only
  split
  · rw [sk_snoc]
  · split
    · split
      · rw [sk_raw, sk_snoc]
      · rw [sk_snoc]
    · rw [sk_snoc]
/-- A step keeps tokens standing; what is to blame stands, too. -/
theorem SI.step {st st' : LS} {e : Option (Int × Nat)} (hI : InvM s st) (h : SI s (sk st.out) st.i) (hi : st.i < s.length) (hs : stepL s st = (st', e)) : SI s (sk st'.out) (if e = none then st'.i else st.i) ∧ ∀ x b, e = some (x, b) → b < s.length ∧ ¬ x = 0 := by
  obtain ⟨out, ws, i⟩ := st
  obtain ⟨h1, h2, h3, h4⟩ := hI
  simp only at hi h1 h2 h3 h4 h ⊢
  rw [step_eq hi] at hs
  have dl : (s.drop i).length = s.length - i := List.length_drop
  split at hs
  · rename_i o ho
    obtain ⟨o1, o2⟩ := opAt_len ho
    cases hs
    have hp : (s.drop i).take o.length = o := by
      unfold opAt at ho
      have := List.find?_some ho
      unfold isPre at this
      exact of_decide_eq_true this
    refine ⟨?_, fun x b h => by cases h⟩
    rw [if_pos rfl, sk_snoc]
    exact h.snoc (List.length_pos_iff.1 o1) hp (Nat.le_refl _)
  split at hs
  · cases hs
    exact ⟨by rw [if_pos rfl]; exact h.mono (by show i ≤ i + 2; omega), fun x b h => by cases h⟩
  split at hs
  · cases hs
    exact ⟨by rw [if_pos rfl]; exact h.mono (by show i ≤ i + 1; omega), fun x b h => by cases h⟩
  rename_i hop hbn hbl
  split at hs
  · cases hs
    exact ⟨by rw [if_pos rfl]; exact h.mono (by show i ≤ i + _; omega), fun x b h => by cases h⟩
  split at hs
  · rename_i hc
    split at hs
    · rename_i o' i' hh
      cases hs
      obtain ⟨g1, _⟩ := sk_heres hh
      have g2 := heres_le hh (by omega)
      refine ⟨?_, fun x b h => by cases h⟩
      rw [if_pos rfl, sk_snoc, g1]
      refine h.snoc (by simp) ?_ (by show i + 1 ≤ i'; omega)
      rw [drop_c hi, hc]
      rfl
    · rename_i o' i' e' hh
      cases hs
      obtain ⟨g1, g3⟩ := sk_heres hh
      have g4 := heres_len hh
      refine ⟨by rw [if_neg (by simp), g1]; exact h, fun x b hb => ?_⟩
      obtain ⟨w, hw, rfl⟩ := g3 x b hb
      refine ⟨atOf_lt (e := i) (by rw [g1]; exact h) h1 (by rw [g4]; exact h4 w hw), ?_⟩
      have : ∀ {ws : List Wt} {out : List Tok} {i : Nat} {o' : List Tok} {i' : Nat} {x : Int} {b : Nat}, heres s out i ws = (o', i', some (x, b)) → x = 12 := by
        intro ws
        induction ws with
        | nil => intro out i o' i' x b h; cases h
        | cons w ws ih =>
          intro out i o' i' x b h
          rw [heres_c] at h
          split at h
          · exact ih h
          · cases h; rfl
      rw [hb] at hh
      rw [this hh]
      decide
  rename_i hc35 hnl
  split at hs
  · rename_i j hw
    cases hs
    have g1 := wordP_lt hw hi (not_meta (by rw [← drop_c hi]; exact hop) hbl hnl)
    have g2 := wordP_le hw (by omega)
    have tl : ((s.drop i).take (j - i)).length = j - i := by rw [List.length_take]; omega
    refine ⟨?_, fun x b h => by cases h⟩
    rw [if_pos rfl, ofWord_sk, ofWord_i]
    refine h.snoc (fun h0 => ?_) (by rw [tl]) (by show i + _ ≤ j; rw [tl]; omega)
    have := congrArg List.length h0
    rw [tl] at this
    simp at this
    omega
  · rename_i j e' hw
    cases hs
    obtain ⟨e1, e2⟩ := e'
    refine ⟨by rw [if_neg (by simp)]; exact h, fun x b hb => ?_⟩
    cases hb
    exact wordP_bad hw
theorem SI.run : ∀ {f : Nat} {st st' : LS} {e : Option (Int × Nat)}, InvM s st → SI s (sk st.out) st.i → s.length - st.i < f → runL f s st = (st', e) → SI s (sk st'.out) s.length ∧ (∀ w, w ∈ st'.ws → w.op < st'.out.length) ∧ st'.out.length ≤ s.length ∧ ∀ x b, e = some (x, b) → b < s.length ∧ ¬ x = 0
  | 0, st, st', e, hI, h, hf, hr => by omega
  | f + 1, st, st', e, hI, h, hf, hr => by
    by_cases hlt : st.i < s.length
    · rw [run_s hlt] at hr
      cases hst : stepL s st with
      | mk st2 e2 =>
        obtain ⟨g1, g2, g3⟩ := hI.step hlt hst
        obtain ⟨g4, g5⟩ := SI.step hI h hlt hst
        rw [hst] at hr
        cases e2 with
        | none =>
          obtain ⟨g6, g7⟩ := g1 rfl
          rw [if_pos rfl] at g4
          exact SI.run g7 g4 (by omega) hr
        | some e2 =>
          cases hr
          rw [if_neg (by simp)] at g4
          exact ⟨g4.mono (by omega), g3, g2, g5⟩
    · have hr : (st, none) = (st', e) := by rw [← hr]; unfold runL; rw [if_neg hlt]
      cases hr
      exact ⟨h.mono hI.i, hI.p, by have := hI.o; have := hI.i; omega, fun x b h => by cases h⟩
/-- Tokens of a text stand in it. -/
theorem lex_stands (hs : s.length ≤ 4096) : SI s (sk (lexP s).1) s.length ∧ ((lexP s).2.2 = 0 → (lexP s).2.1 = 0) ∧ (¬ (lexP s).2.2 = 0 → (lexP s).2.1 < s.length) := by
  unfold lexP
  rw [if_neg (by omega)]
  cases hr : runL (s.length + 1) s ⟨[], [], 0⟩ with
  | mk st e =>
    obtain ⟨h1, h2, h3, h4⟩ := SI.run (st := ⟨[], [], 0⟩) ⟨Nat.zero_le _, Nat.le_refl _, Nat.le_refl _, fun w hw => by cases hw⟩ SI.nil (by show s.length - 0 < _; omega) hr
    cases e with
    | some e =>
      obtain ⟨x, b⟩ := e
      obtain ⟨g1, g2⟩ := h4 x b rfl
      exact ⟨h1, fun h => absurd h g2, fun _ => g1⟩
    | none =>
      cases hw : st.ws with
      | nil =>
        simp only [hw]
        refine ⟨h1, ?_, ?_⟩ <;> simp
      | cons w r =>
        simp only [hw]
        exact ⟨h1, fun h => absurd h (by decide), fun _ => atOf_lt h1 (Nat.le_refl _) (h2 w (by rw [hw]; simp))⟩
end
section
variable {σ σ' : AS} {X : Ce} {R : List Ck} {k : Value → AS → Prop} {s : Str}
theorem stands_law {v0 : Value} {c : Ce} (h : Hs σ c []) (A0 : OV c (shOf Tryd.prog 8 9) v0) : kCall Tryd.prog 3 [v0] σ fun v _ => v = .bool true := by
  rw [show shOf Tryd.prog 8 9 = .str from by kernel_rfl] at A0
  obtain ⟨s, rfl, hs⟩ := arg_str A0
  refine f3 ?_
  unfold maxLen at hs
  by_cases hl : 1000 < s.length
  · (try simp (maxSteps := 1000000) (dsimp := false) (disch := (first | omega | (simp only [okR]; done) | (simp only [sizeR] <;> omega) | fail)) only [↓preR, postR, ↓w_stop, Nat.reduceEqDiff, Nat.reduceAdd, Nat.reduceSub, Nat.reduceMul, Int.reduceNeg, Nat.reduceLT, Int.reduceToNat, Nat.reduceLeDiff, Nat.sub_zero, F3])
    refine join_now ?_
    (try simp (maxSteps := 1000000) (dsimp := false) (disch := (first | omega | (simp only [okR]; done) | (simp only [sizeR] <;> omega) | fail)) only [↓preR, postR, ↓w_stop, Nat.reduceEqDiff, Nat.reduceAdd, Nat.reduceSub, Nat.reduceMul, Int.reduceNeg, Nat.reduceLT, Int.reduceToNat, Nat.reduceLeDiff, Nat.sub_zero])
    refine awake_c h fun X' s1 _ h1 => ?_
    (try simp (maxSteps := 1000000) (dsimp := false) (disch := (first | omega | (simp only [okR]; done) | (simp only [sizeR] <;> omega) | fail)) only [↓preR, postR, ↓w_stop, Nat.reduceEqDiff, Nat.reduceAdd, Nat.reduceSub, Nat.reduceMul, Int.reduceNeg, Nat.reduceLT, Int.reduceToNat, Nat.reduceLeDiff, Nat.sub_zero])
  obtain ⟨hS, h0, hE⟩ := lex_stands (s := s) (by omega)
  (try simp (maxSteps := 1000000) (dsimp := false) (disch := (first | omega | (simp only [okR]; done) | (simp only [sizeR] <;> omega) | fail)) only [↓preR, postR, ↓w_stop, Nat.reduceEqDiff, Nat.reduceAdd, Nat.reduceSub, Nat.reduceMul, Int.reduceNeg, Nat.reduceLT, Int.reduceToNat, Nat.reduceLeDiff, Nat.sub_zero, F3])
  refine join_now ?_
  (try simp (maxSteps := 1000000) (dsimp := false) (disch := (first | omega | (simp only [okR]; done) | (simp only [sizeR] <;> omega) | fail)) only [↓preR, postR, ↓w_stop, Nat.reduceEqDiff, Nat.reduceAdd, Nat.reduceSub, Nat.reduceMul, Int.reduceNeg, Nat.reduceLT, Int.reduceToNat, Nat.reduceLeDiff, Nat.sub_zero])
  refine lex_c (by omega) h fun X1 u s1 _ h1 => ?_
  generalize lexP s = W at hS h0 hE h1 ⊢
  obtain ⟨L, at', e⟩ := W
  simp only at hS h0 hE h1 ⊢
  have hsl : ∀ j (hj : j < L.length), L[j].text ≠ [] ∧ L[j].at' + L[j].text.length ≤ s.length ∧ (s.drop L[j].at').take L[j].text.length = L[j].text ∧ ∀ i (hi : i < j), (L[i]'(by omega)).at' + (L[i]'(by omega)).text.length ≤ L[j].at' := by
    intro j hj
    obtain ⟨g1, g2, g3, g4⟩ := hS j (by simpa [sk] using hj)
    simp only [sk, List.getElem_map] at g1 g2 g3 g4
    exact ⟨g1, g2, g3, g4⟩
  obtain ⟨ux, uc, rfl, _⟩ := h1.own
  (try simp (maxSteps := 1000000) (dsimp := false) (disch := (first | omega | (simp only [okR]; done) | (simp only [sizeR] <;> omega) | fail)) only [↓preR, postR, ↓w_stop, Nat.reduceEqDiff, Nat.reduceAdd, Nat.reduceSub, Nat.reduceMul, Int.reduceNeg, Nat.reduceLT, Int.reduceToNat, Nat.reduceLeDiff, Nat.sub_zero])
  refine join_by fun J2 hJ2 => ?_
  have tail : ∀ s1 : AS, Hs s1 X1 [E.Own (α := Tok) (.slice ux L.length uc) L] → J2 [] s1 := by
    intro s1 h1
    refine hJ2 _ _ ?_
    clear hJ2
    by_cases he : e = 0
    · subst he
      have : at' = 0 := h0 rfl
      subst this
      (try simp (maxSteps := 1000000) (dsimp := false) (disch := (first | omega | (simp only [okR]; done) | (simp only [sizeR] <;> omega) | fail)) only [↓preR, postR, ↓w_stop, Nat.reduceEqDiff, Nat.reduceAdd, Nat.reduceSub, Nat.reduceMul, Int.reduceNeg, Nat.reduceLT, Int.reduceToNat, Nat.reduceLeDiff, Nat.sub_zero])
      refine join_now ?_
      (try simp (maxSteps := 1000000) (dsimp := false) (disch := (first | omega | (simp only [okR]; done) | (simp only [sizeR] <;> omega) | fail)) only [↓preR, postR, ↓w_stop, Nat.reduceEqDiff, Nat.reduceAdd, Nat.reduceSub, Nat.reduceMul, Int.reduceNeg, Nat.reduceLT, Int.reduceToNat, Nat.reduceLeDiff, Nat.sub_zero])
      refine awake_c h1 fun X' s2 _ h2 => ?_
      (try simp (maxSteps := 1000000) (dsimp := false) (disch := (first | omega | (simp only [okR]; done) | (simp only [sizeR] <;> omega) | fail)) only [↓preR, postR, ↓w_stop, Nat.reduceEqDiff, Nat.reduceAdd, Nat.reduceSub, Nat.reduceMul, Int.reduceNeg, Nat.reduceLT, Int.reduceToNat, Nat.reduceLeDiff, Nat.sub_zero])
    · have := hE he
      (try simp (maxSteps := 1000000) (dsimp := false) (disch := (first | omega | (simp only [okR]; done) | (simp only [sizeR] <;> omega) | fail)) only [↓preR, postR, ↓w_stop, Nat.reduceEqDiff, Nat.reduceAdd, Nat.reduceSub, Nat.reduceMul, Int.reduceNeg, Nat.reduceLT, Int.reduceToNat, Nat.reduceLeDiff, Nat.sub_zero])
      refine join_now ?_
      (try simp (maxSteps := 1000000) (dsimp := false) (disch := (first | omega | (simp only [okR]; done) | (simp only [sizeR] <;> omega) | fail)) only [↓preR, postR, ↓w_stop, Nat.reduceEqDiff, Nat.reduceAdd, Nat.reduceSub, Nat.reduceMul, Int.reduceNeg, Nat.reduceLT, Int.reduceToNat, Nat.reduceLeDiff, Nat.sub_zero, he])
      refine awake_c h1 fun X' s2 _ h2 => ?_
      (try simp (maxSteps := 1000000) (dsimp := false) (disch := (first | omega | (simp only [okR]; done) | (simp only [sizeR] <;> omega) | fail)) only [↓preR, postR, ↓w_stop, Nat.reduceEqDiff, Nat.reduceAdd, Nat.reduceSub, Nat.reduceMul, Int.reduceNeg, Nat.reduceLT, Int.reduceToNat, Nat.reduceLeDiff, Nat.sub_zero])
  clear hJ2
  (try simp (maxSteps := 1000000) (dsimp := false) (disch := (first | omega | (simp only [okR]; done) | (simp only [sizeR] <;> omega) | fail)) only [↓preR, postR, ↓w_stop, Nat.reduceEqDiff, Nat.reduceAdd, Nat.reduceSub, Nat.reduceMul, Int.reduceNeg, Nat.reduceLT, Int.reduceToNat, Nat.reduceLeDiff, Nat.sub_zero])
  refine loop_inv (fun nn xs s2 => ∃ (j en : Nat), xs = [.int .i64 en, .int .i64 j] ∧ j ≤ L.length ∧ en ≤ s.length ∧ (∀ (hj : j < L.length), en ≤ L[j].at') ∧ Hs s2 X1 (E.Own (α := Tok) (.slice ux L.length uc) L :: []) ∧ nn = L.length - j) _ ⟨0, 0, rfl, Nat.zero_le _, Nat.zero_le _, fun _ => Nat.zero_le _, h1, rfl⟩ ?_
  rintro _ _ s2 again ⟨j, en, rfl, hj, hen, hle, h2, rfl⟩ hag
  (try simp (maxSteps := 1000000) (dsimp := false) (disch := (first | omega | (simp only [okR]; done) | (simp only [sizeR] <;> omega) | fail)) only [↓preR, postR, ↓w_stop, Nat.reduceEqDiff, Nat.reduceAdd, Nat.reduceSub, Nat.reduceMul, Int.reduceNeg, Nat.reduceLT, Int.reduceToNat, Nat.reduceLeDiff, Nat.sub_zero])
  refine join_now ?_
  by_cases hlt : j < L.length
  rotate_left
  · (try simp (maxSteps := 1000000) (dsimp := false) (disch := (first | omega | (simp only [okR]; done) | (simp only [sizeR] <;> omega) | fail)) only [↓preR, postR, ↓w_stop, Nat.reduceEqDiff, Nat.reduceAdd, Nat.reduceSub, Nat.reduceMul, Int.reduceNeg, Nat.reduceLT, Int.reduceToNat, Nat.reduceLeDiff, Nat.sub_zero])
    exact tail s2 h2
  obtain ⟨g, c', ys, b, e1, hcl, hcm, hm, hyl, _, y0, y1, y2, y3, y4, _⟩ := tok_at h2 hlt
  unfold maxLen at hcm
  injection e1 with e1 _ _
  subst e1
  obtain ⟨g1, g2, g3, g4⟩ := hsl j hlt
  have hle' := hle hlt
  (try simp (maxSteps := 1000000) (dsimp := false) (disch := (first | omega | (simp only [okR]; done) | (simp only [sizeR] <;> omega) | fail)) only [↓preR, postR, ↓w_stop, Nat.reduceEqDiff, Nat.reduceAdd, Nat.reduceSub, Nat.reduceMul, Int.reduceNeg, Nat.reduceLT, Int.reduceToNat, Nat.reduceLeDiff, Nat.sub_zero])
  refine join_by fun J6 hJ6 => ?_
  have y2' : ys[j * 5 + 1 + 1]? = some (.int .i64 L[j].at') := y2
  have y3' : ys[j * 5 + 1 + 1 + 1]? = some (.string (bs L[j].body)) := y3
  have y4' : ys[j * 5 + 1 + 1 + 1 + 1]? = some (.bool b) := y4
  have h3 := (h2.new (cs := [.int .i64 0, .string (bs []), .int .i64 0, .string (bs []), .bool false])).put (cs' := tokC L[j] b)
  (try simp (maxSteps := 1000000) (dsimp := false) (disch := (first | omega | (simp only [okR]; done) | (simp only [sizeR] <;> omega) | fail)) only [↓preR, postR, ↓w_stop, Nat.reduceEqDiff, Nat.reduceAdd, Nat.reduceSub, Nat.reduceMul, Int.reduceNeg, Nat.reduceLT, Int.reduceToNat, Nat.reduceLeDiff, Nat.sub_zero, hm, y0, y1, y2', y3', y4', h3.obj])
  generalize AS.put _ _ _ = s3 at h3 ⊢
  generalize s2.n = tp at h3 ⊢
  refine join_now ?_
  have a1 : ¬ ((L[j].at' : Int) < (en : Int)) := by omega
  have a2 : ¬ ((s.length : Int) < (L[j].at' : Int) + (L[j].text.length : Int)) := by omega
  have a3 : L[j].at' + L[j].text.length - L[j].at' = L[j].text.length := by omega
  (try simp (maxSteps := 1000000) (dsimp := false) (disch := (first | omega | (simp only [okR]; done) | (simp only [sizeR] <;> omega) | fail)) only [↓preR, postR, ↓w_stop, Nat.reduceEqDiff, Nat.reduceAdd, Nat.reduceSub, Nat.reduceMul, Int.reduceNeg, Nat.reduceLT, Int.reduceToNat, Nat.reduceLeDiff, Nat.sub_zero, h3.obj, a1, g1, a2, a3, g3])
  refine hJ6 _ _ ?_
  have e6 : ((L[j].at' : Int) + (L[j].text.length : Int)) = ((L[j].at' + L[j].text.length : Nat) : Int) := by omega
  (try simp (maxSteps := 1000000) (dsimp := false) (disch := (first | omega | (simp only [okR]; done) | (simp only [sizeR] <;> omega) | fail)) only [↓preR, postR, ↓w_stop, Nat.reduceEqDiff, Nat.reduceAdd, Nat.reduceSub, Nat.reduceMul, Int.reduceNeg, Nat.reduceLT, Int.reduceToNat, Nat.reduceLeDiff, Nat.sub_zero, ↓e6])
  refine hag _ _ _ ⟨j + 1, L[j].at' + L[j].text.length, rfl, hlt, g2, fun hj1 => (hsl (j + 1) hj1).2.2.2 j (by omega), h3.drop, rfl⟩ (by omega)
end
end Go.Proofs.YtgijohcmkipkhaaDoor
