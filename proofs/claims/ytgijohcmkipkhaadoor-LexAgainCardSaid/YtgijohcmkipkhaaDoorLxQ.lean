/- The tokens of a text's first lines are those of the whole. Conditions: none. -/
import Derived.Test.YtgijohcmkipkhaaDoorLxP
import Derived.Test.YtgijohcmkipkhaaDoorEq
namespace Go.Proofs.YtgijohcmkipkhaaDoor
open E Go.Lib
open Go.RowKit
set_option linter.unusedVariables false
set_option linter.unusedSimpArgs false
set_option maxHeartbeats 1000000
set_option maxRecDepth 20000

def CutB (c : UInt8) : Prop := ¬ c = 92 ∧ ¬ c = 39 ∧ ¬ c = 34 ∧ ¬ c = 40 ∧ ¬ c = 123 ∧ ¬ c = 60 ∧ ¬ c = 96
def CutA (l : Str) : Prop := ∀ c, c ∈ l → CutB c
/-- Tokens that have no text in place, nor may have one. -/
def PlainL (L : List Tok) : Prop := ∀ t, t ∈ L → isPre [60, 60] t.text = false ∧ t.raw = some false ∧ t.body = []
theorem posB_app {c : UInt8} {r : Str} : ∀ {l : Str} {n : Nat}, posB c l = some n → posB c (l ++ r) = some n
  | [], n, h => by cases h
  | a :: l, n, h => by
    rw [List.cons_append, pos_cons]
    rw [pos_cons] at h
    split
    · rename_i ha; rw [if_pos ha] at h; exact h
    · rename_i ha
      rw [if_neg ha] at h
      cases hp : posB c l with
      | none => rw [hp] at h; cases h
      | some m =>
        rw [hp] at h
        rw [posB_app hp]
        exact h
theorem posB_last {c : UInt8} : ∀ {x : Str}, ∃ n, posB c (x ++ [c]) = some n
  | [] => ⟨0, by rw [List.nil_append, pos_cons, if_pos rfl]⟩
  | a :: x => by
    obtain ⟨n, hn⟩ := posB_last (c := c) (x := x)
    rw [List.cons_append, pos_cons]
    split
    · exact ⟨0, rfl⟩
    · exact ⟨n + 1, by rw [hn]; rfl⟩
theorem isPre_app {o x b : Str} (h10 : ¬ (10 : UInt8) ∈ o) : isPre o ((x ++ [10]) ++ b) = isPre o (x ++ [10]) := by
  unfold isPre
  by_cases h : o.length ≤ (x ++ [10]).length
  · rw [List.take_append_of_le_length h]
  · have h1 : ¬ ((x ++ [10]) ++ b).take o.length = o := by
      intro e
      apply h10
      rw [← e, List.take_append]
      apply List.mem_append_left
      rw [List.take_of_length_le (by omega)]
      simp
    have h2 : ¬ (x ++ [10]).take o.length = o := by
      intro e
      have := congrArg List.length e
      rw [List.length_take] at this
      omega
    rw [decide_eq_false h1, decide_eq_false h2]
theorem find_congr {p q : Str → Bool} : ∀ {l : List Str}, (∀ o, o ∈ l → p o = q o) → l.find? p = l.find? q
  | [], _ => rfl
  | a :: l, h => by
    rw [List.find?_cons, List.find?_cons, h a (by simp), find_congr fun o ho => h o (by simp [ho])]
theorem opAt_app {x b : Str} : opAt ((x ++ [10]) ++ b) = opAt (x ++ [10]) := by
  unfold opAt
  refine find_congr fun o ho => isPre_app ?_
  have : ∀ o, o ∈ ops16 → ¬ (10 : UInt8) ∈ o := by decide
  exact this o ho
theorem lineN_app {x b : Str} : lineN ((x ++ [10]) ++ b) = lineN (x ++ [10]) := by
  obtain ⟨n, hn⟩ := posB_last (c := 10) (x := x)
  unfold lineN
  rw [posB_app hn, hn]
theorem isPre_head {p c : UInt8} {o t : Str} (h : isPre (p :: o) (c :: t) = true) : c = p := by
  unfold isPre at h
  have := of_decide_eq_true h
  simp only [List.length_cons, List.take_succ_cons] at this
  injection this
theorem go_plain {c : UInt8} {t : Str} (hc : CutB c) (ht : ∀ x r, t = x :: r → CutB x) : go FU none (c :: t) false true false 0 = .ok 1 := by
  obtain ⟨c1, c2, c3, c4, c5, c6, c7⟩ := hc
  show go (2099999 + 1) none (c :: t) false true false 0 = .ok 1
  rw [go_n]
  simp only [c1, c2, c3, c4, c7, false_and, if_false]
  split
  · split
    · rfl
    · rename_i x r
      have := ht x r rfl
      simp only [this.2.2.2.2.1, this.2.2.2.1, if_false]
  · rfl
section
variable {a b : Str} {out : List Tok} {i j : Nat}
theorem dropA (hi : i ≤ a.length) : (a ++ [10]).drop i = a.drop i ++ [10] := by rw [List.drop_append_of_le_length hi]
theorem dropB (hi : i ≤ a.length) : ((a ++ [10]) ++ b).drop i = (a.drop i ++ [10]) ++ b := by
  rw [List.drop_append_of_le_length (by simp; omega), dropA hi]
theorem getB {s : Str} (hi : i < s.length) (hi' : i < (s ++ b).length) : (s ++ b)[i] = s[i] := List.getElem_append_left hi
theorem word_cut (hA : CutA a) : ∀ {n f1 f2 i : Nat}, a.length - i = n → i ≤ a.length → a.length - i < f1 → a.length - i < f2 → ∃ j, i ≤ j ∧ j ≤ a.length ∧ wordP f1 (a ++ [10]) i = (j, none) ∧ wordP f2 ((a ++ [10]) ++ b) i = (j, none)
  | n, 0, _, _, _, _, hf, _ => by omega
  | n, _ + 1, 0, _, _, _, _, hf => by omega
  | n, f1 + 1, f2 + 1, i, hn, hi, h1, h2 => by
    have l1 : i < (a ++ [10]).length := by simp; omega
    have l2 : i < ((a ++ [10]) ++ b).length := by simp; omega
    rw [wd_s l1, wd_s l2, getB l1 l2]
    by_cases hm : metaB (a ++ [10])[i] = true
    · exact ⟨i, Nat.le_refl _, hi, by rw [if_pos hm], by rw [if_pos hm]⟩
    rw [if_neg hm, if_neg hm]
    have hlt : i < a.length := by
      by_cases h : i < a.length
      · exact h
      · have : i = a.length := by omega
        subst this
        simp [metaB] at hm
    have ga : (a ++ [10])[i] = a[i] := List.getElem_append_left hlt
    have hca : CutB a[i] := hA _ (List.getElem_mem hlt)
    have c10 : CutB 10 := by unfold CutB; decide
    have nextB : ∀ (r : Str) x r', a.drop (i + 1) ++ [10] ++ r = x :: r' → CutB x := by
      intro r x r' e
      by_cases h : i + 1 < a.length
      · rw [List.drop_eq_getElem_cons h] at e
        simp only [List.cons_append] at e
        injection e with e _
        rw [← e]
        exact hA _ (List.getElem_mem h)
      · rw [List.drop_of_length_le (by omega)] at e
        simp only [List.nil_append, List.cons_append] at e
        injection e with e _
        rw [← e]
        exact c10
    have g1 : go FU none ((a ++ [10]).drop i) false true false 0 = .ok 1 := by
      rw [dropA hi, List.drop_eq_getElem_cons hlt, List.cons_append]
      exact go_plain hca (fun x r e => nextB [] x r (by rw [List.append_nil]; exact e))
    have g2 : go FU none (((a ++ [10]) ++ b).drop i) false true false 0 = .ok 1 := by
      rw [dropB hi, List.drop_eq_getElem_cons hlt, List.cons_append, List.cons_append]
      exact go_plain hca (nextB b)
    rw [g1, g2]
    obtain ⟨j, h3, h4, h5, h6⟩ := word_cut hA (n := a.length - (i + 1)) (f1 := f1) (f2 := f2) (i := i + 1) rfl (by omega) (by omega) (by omega)
    exact ⟨j, by omega, h4, h5, h6⟩
theorem io_cut (hij : i ≤ j) (hj : j ≤ a.length) : ioB ((a ++ [10]) ++ b) i j = ioB (a ++ [10]) i j ∧ (((a ++ [10]) ++ b).drop i).take (j - i) = ((a ++ [10]).drop i).take (j - i) := by
  have e : (((a ++ [10]) ++ b).drop i).take (j - i) = ((a ++ [10]).drop i).take (j - i) := by
    rw [dropB (by omega), dropA (by omega), List.take_append_of_le_length (by simp; omega)]
  refine ⟨?_, e⟩
  unfold ioB
  rw [e, dropB hj, dropA hj]
  congr 1
  cases a.drop j with
  | nil => rfl
  | cons x r => rfl
/-- A step within the first lines is the same one. -/
theorem step_cut (hA : CutA a) (hP : PlainL out) (hi : i ≤ a.length) : stepL ((a ++ [10]) ++ b) ⟨out, [], i⟩ = stepL (a ++ [10]) ⟨out, [], i⟩ ∧ ∃ out' i', stepL (a ++ [10]) ⟨out, [], i⟩ = (⟨out', [], i'⟩, none) ∧ PlainL out' := by
  have l1 : i < (a ++ [10]).length := by simp; omega
  have l2 : i < ((a ++ [10]) ++ b).length := by simp; omega
  have c10 : CutB 10 := by unfold CutB; decide
  have hA1 : CutA (a ++ [10]) := by
    intro c hc
    rcases List.mem_append.1 hc with hc | hc
    · exact hA c hc
    · simp only [List.mem_singleton] at hc; subst hc; exact c10
  have hcB : CutB (a ++ [10])[i] := hA1 _ (List.getElem_mem l1)
  have more : ∀ t, isPre [60, 60] t.text = false → t.raw = some false → t.body = [] → PlainL (out ++ [t]) := by
    intro t h1 h2 h3 x hx
    rcases List.mem_append.1 hx with hx | hx
    · exact hP x hx
    · simp only [List.mem_singleton] at hx; subst hx; exact ⟨h1, h2, h3⟩
  have n92 : isPre [92, 10] ((a ++ [10]).drop i) = false := by
    cases h : isPre [92, 10] ((a ++ [10]).drop i) with
    | false => rfl
    | true =>
      rw [List.drop_eq_getElem_cons l1] at h
      exact absurd (isPre_head h) hcB.1
  have n92' : isPre [92, 10] (((a ++ [10]) ++ b).drop i) = false := by
    cases h : isPre [92, 10] (((a ++ [10]) ++ b).drop i) with
    | false => rfl
    | true =>
      rw [List.drop_eq_getElem_cons l2, getB l1 l2] at h
      exact absurd (isPre_head h) hcB.1
  have eop : opAt (((a ++ [10]) ++ b).drop i) = opAt ((a ++ [10]).drop i) := by rw [dropB hi, dropA hi, opAt_app]
  have eln : lineN (((a ++ [10]) ++ b).drop i) = lineN ((a ++ [10]).drop i) := by rw [dropB hi, dropA hi, lineN_app]
  rw [step_eq l1, step_eq l2, eop, n92, n92', getB l1 l2, eln]
  simp only [Bool.false_eq_true, if_false]
  cases hop : opAt ((a ++ [10]).drop i) with
  | some o =>
    refine ⟨rfl, _, _, rfl, more _ ?_ rfl rfl⟩
    show isPre [60, 60] o = false
    cases h : isPre [60, 60] o with
    | false => rfl
    | true =>
      have h1 : isPre o ((a ++ [10]).drop i) = true := by
        unfold opAt at hop
        have h2 := List.find?_some hop
        exact h2
      unfold isPre at h1
      have h2 := of_decide_eq_true h1
      cases o with
      | nil => simp [isPre] at h
      | cons x r =>
        have h3 := isPre_head h
        have h4 : x ∈ (a ++ [10]).drop i := List.mem_of_mem_take (by rw [h2]; simp)
        exact absurd h3 (hA1 _ (List.mem_of_mem_drop h4)).2.2.2.2.2.1
  | none =>
    simp only
    split
    · exact ⟨rfl, _, _, rfl, hP⟩
    split
    · exact ⟨rfl, _, _, rfl, hP⟩
    split
    · refine ⟨rfl, _, _, rfl, more _ (by show isPre [60, 60] [10] = false; decide) rfl rfl⟩
    obtain ⟨j, h1, h2, h3, h4⟩ := word_cut (b := b) hA (f1 := (a ++ [10]).length + 1) (f2 := ((a ++ [10]) ++ b).length + 1) (i := i) rfl hi (by simp; omega) (by simp; omega)
    rw [h3, h4]
    dsimp only
    obtain ⟨g1, g2⟩ := io_cut (b := b) h1 h2
    have hn : ∀ t, out[out.length - 1]? = some t → ¬ (t.kind = 2 ∧ isPre [60, 60] t.text = true) := by
      intro t ht h
      rw [(hP t (List.mem_of_getElem? ht)).1] at h
      exact absurd h.2 (by decide)
    have text60 : isPre [60, 60] (((a ++ [10]).drop i).take (j - i)) = false := by
      cases h : isPre [60, 60] (((a ++ [10]).drop i).take (j - i)) with
      | false => rfl
      | true =>
        cases ho : ((a ++ [10]).drop i).take (j - i) with
        | nil => rw [ho] at h; simp [isPre] at h
        | cons x r =>
          rw [ho] at h
          have h5 := isPre_head h
          have h6 : x ∈ (a ++ [10]).drop i := List.mem_of_mem_take (by rw [ho]; simp)
          exact absurd h5 (hA1 _ (List.mem_of_mem_drop h6)).2.2.2.2.2.1
    cases hio : ioB (a ++ [10]) i j with
    | true =>
      rw [hio] at g1
      rw [ofWord_io hio, ofWord_io g1, g2]
      exact ⟨rfl, _, _, rfl, more _ text60 rfl rfl⟩
    | false =>
      rw [hio] at g1
      rw [ofWord_word hio hn, ofWord_word g1 hn, g2]
      exact ⟨rfl, _, _, rfl, more _ text60 rfl rfl⟩
theorem run_e {f : Nat} {s : Str} {st : LS} (h : s.length ≤ st.i) : runL (f + 1) s st = (st, none) := by
  unfold runL
  rw [if_neg (by omega)]
/-- The first lines are gone through alike. -/
theorem run_cut (hA : CutA a) : ∀ {n f1 f2 i : Nat} {out : List Tok}, (a ++ [10]).length - i = n → InvM (a ++ [10]) ⟨out, [], i⟩ → PlainL out → (a ++ [10]).length - i < f1 → ((a ++ [10]) ++ b).length - i < f2 →
    ∃ out', runL f1 (a ++ [10]) ⟨out, [], i⟩ = (⟨out', [], (a ++ [10]).length⟩, none) ∧ PlainL out' ∧ out'.length ≤ (a ++ [10]).length ∧ ∃ f3, ((a ++ [10]) ++ b).length - (a ++ [10]).length < f3 ∧ runL f2 ((a ++ [10]) ++ b) ⟨out, [], i⟩ = runL f3 ((a ++ [10]) ++ b) ⟨out', [], (a ++ [10]).length⟩ := by
  intro n
  induction n using Nat.strongRecOn with
  | ind n ih =>
    intro f1 f2 i out hn hI hP h1 h2
    have hi := hI.i
    have ho := hI.o
    simp only at hi ho
    obtain ⟨f1, rfl⟩ : ∃ g, f1 = g + 1 := ⟨f1 - 1, by omega⟩
    obtain ⟨f2, rfl⟩ : ∃ g, f2 = g + 1 := ⟨f2 - 1, by omega⟩
    by_cases hlt : i < (a ++ [10]).length
    · have hia : i ≤ a.length := by simp at hlt; omega
      obtain ⟨e1, out', i', e2, hP'⟩ := step_cut (b := b) hA hP hia
      obtain ⟨g1, _⟩ := hI.step hlt e2
      obtain ⟨g2, g3⟩ := g1 rfl
      have g4 := g3.i
      simp only at g2 g4
      have hlb : ((a ++ [10]) ++ b).length = (a ++ [10]).length + b.length := List.length_append
      rw [run_s (st := ⟨out, [], i⟩) hlt, run_s (s := (a ++ [10]) ++ b) (st := ⟨out, [], i⟩) (by show i < _; rw [List.length_append]; omega), e1, e2]
      exact ih ((a ++ [10]).length - i') (by omega) rfl g3 hP' (by omega) (by omega)
    · have hie : i = (a ++ [10]).length := by omega
      subst hie
      exact ⟨out, run_e (Nat.le_refl _), hP, ho, f2 + 1, h2, rfl⟩
/-- What was there at first is there still. -/
def PreP (O : List Tok) (st : LS) : Prop := (∀ i, i < O.length → st.out[i]? = O[i]?) ∧ ∀ w, w ∈ st.ws → O.length ≤ w.op
variable {O : List Tok} {s : Str}
theorem pre_app {out L : List Tok} (h : ∀ i, i < O.length → out[i]? = O[i]?) : ∀ i, i < O.length → (out ++ L)[i]? = O[i]? := by
  intro i hi
  have h1 := h i hi
  rw [List.getElem?_eq_getElem hi] at h1
  rw [List.getElem?_append_left (List.getElem?_eq_some_iff.1 h1).1, h i hi]
theorem pre_body {out : List Tok} {n : Nat} {bd : Str} (hn : O.length ≤ n) (h : ∀ i, i < O.length → out[i]? = O[i]?) : ∀ i, i < O.length → (setBody out n bd)[i]? = O[i]? := by
  intro i hi
  unfold setBody
  split
  · rw [List.getElem?_set_ne (by omega)]; exact h i hi
  · exact h i hi
theorem pre_raw {out : List Tok} {n : Nat} (hn : O.length ≤ n) (h : ∀ i, i < O.length → out[i]? = O[i]?) : ∀ i, i < O.length → (setRaw out n)[i]? = O[i]? := by
  intro i hi
  unfold setRaw
  split
  · rw [List.getElem?_set_ne (by omega)]; exact h i hi
  · exact h i hi
theorem pre_heres : ∀ {ws : List Wt} {out : List Tok} {i : Nat} {o' : List Tok} {i' : Nat} {e : Option (Int × Nat)}, (∀ w, w ∈ ws → O.length ≤ w.op) → (∀ i, i < O.length → out[i]? = O[i]?) → heres s out i ws = (o', i', e) → ∀ i, i < O.length → o'[i]? = O[i]?
  | [], out, i, o', i', e, _, h, hh => by cases hh; exact h
  | w :: ws, out, i, o', i', e, hw, h, hh => by
    rw [heres_c] at hh
    split at hh
    · exact pre_heres (fun x hx => hw x (by simp [hx])) (pre_body (hw w (by simp)) h) hh
    · cases hh; exact h
theorem PreP.step {st st' : LS} {e : Option (Int × Nat)} (hP : PlainL O) (h : PreP O st) (hi : st.i < s.length) (hs : stepL s st = (st', e)) : PreP O st' := by
  obtain ⟨out, ws, i⟩ := st
  obtain ⟨h1, h2⟩ := h
  simp only at hi h1 h2
  rw [step_eq hi] at hs
  split at hs
  · cases hs; exact ⟨pre_app h1, h2⟩
  split at hs
  · cases hs; exact ⟨h1, h2⟩
  split at hs
  · cases hs; exact ⟨h1, h2⟩
  split at hs
  · cases hs; exact ⟨h1, h2⟩
  split at hs
  · split at hs
    · rename_i hh
      cases hs
      exact ⟨pre_app (pre_heres h2 h1 hh), fun w hw => by cases hw⟩
    · rename_i hh
      cases hs
      exact ⟨pre_heres h2 h1 hh, h2⟩
  split at hs
  · rename_i j hw
    cases hs
    unfold ofWord
    dsimp only
    split
    · exact ⟨pre_app h1, h2⟩
    · split
      · rename_i t ht
        split
        · rename_i hc
          have hn : O.length ≤ out.length - 1 := by
            by_cases hlt : out.length - 1 < O.length
            · rw [h1 _ hlt] at ht
              have := (hP t (List.mem_of_getElem? ht)).1
              rw [this] at hc
              exact absurd hc.2 (by decide)
            · omega
          refine ⟨pre_raw hn (pre_app h1), fun w hw => ?_⟩
          rcases List.mem_append.1 hw with hw | hw
          · exact h2 w hw
          · simp only [List.mem_singleton] at hw
            subst hw
            exact hn
        · exact ⟨pre_app h1, h2⟩
      · exact ⟨pre_app h1, h2⟩
  · cases hs; exact ⟨h1, h2⟩
theorem PreP.run (hP : PlainL O) : ∀ {f : Nat} {st st' : LS} {e : Option (Int × Nat)}, PreP O st → runL f s st = (st', e) → PreP O st'
  | 0, st, st', e, h, hr => by cases hr; exact h
  | f + 1, st, st', e, h, hr => by
    by_cases hlt : st.i < s.length
    · rw [run_s hlt] at hr
      cases hst : stepL s st with
      | mk st2 e2 =>
        have g := h.step hP hlt hst
        rw [hst] at hr
        cases e2 with
        | none => exact PreP.run hP g hr
        | some e2 => cases hr; exact g
    · rw [run_e (by omega)] at hr
      cases hr; exact h
theorem lex_cut (hA : CutA a) (ha : a.length ≤ 500) (hb : b.length ≤ 500) : ∃ O, lexP (a ++ [10]) = (O, 0, 0) ∧ PlainL O ∧ ∀ i, i < O.length → (lexP ((a ++ [10]) ++ b)).1[i]? = O[i]? := by
  obtain ⟨O, h1, h2, h3, f3, _, h4⟩ := run_cut (b := b) hA (f1 := (a ++ [10]).length + 1) (f2 := ((a ++ [10]) ++ b).length + 1) (i := 0) (out := []) rfl ⟨Nat.zero_le _, Nat.le_refl _, Nat.le_refl _, fun w hw => by cases hw⟩ (fun t ht => by cases ht) (by omega) (by omega)
  refine ⟨O, ?_, h2, ?_⟩
  · unfold lexP
    rw [if_neg (by simp; omega), h1]
  · unfold lexP
    rw [if_neg (by simp; omega), h4]
    cases hr : runL f3 ((a ++ [10]) ++ b) ⟨O, [], (a ++ [10]).length⟩ with
    | mk st e =>
      have := PreP.run h2 (st := ⟨O, [], (a ++ [10]).length⟩) ⟨fun i _ => rfl, fun w hw => by cases hw⟩ hr
      cases e with
      | some e => exact this.1
      | none =>
        simp only
        split <;> exact this.1
end
end Go.Proofs.YtgijohcmkipkhaaDoor
