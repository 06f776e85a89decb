/- A text's tokens. Conditions: as each theorem says. -/
import Derived.Test.YtgijohcmkipkhaaDoorLxM
namespace Go.Proofs.YtgijohcmkipkhaaDoor
open E Go.Lib
open Go.RowKit
set_option linter.unusedVariables false
set_option linter.unusedSimpArgs false
set_option maxHeartbeats 1000000
set_option maxRecDepth 20000

theorem opAt_len {l o : Str} (h : opAt l = some o) : 0 < o.length ∧ o.length ≤ l.length := by
  unfold opAt at h
  have h1 := List.mem_of_find?_eq_some h
  have h2 := List.find?_some h
  have h3 : ∀ o, o ∈ ops16 → 0 < o.length := by decide
  refine ⟨h3 o h1, ?_⟩
  unfold isPre at h2
  have h4 := congrArg List.length (of_decide_eq_true h2)
  rw [List.length_take] at h4
  omega
theorem heres_len : ∀ {s : Str} {ws : List Wt} {out : List Tok} {i : Nat} {o' : List Tok} {i' : Nat} {e : Option (Int × Nat)}, heres s out i ws = (o', i', e) → o'.length = out.length
  | s, [], out, i, o', i', e, h => by cases h; rfl
  | s, w :: ws, out, i, o', i', e, h => by
    rw [heres_c] at h
    split at h
    · have := heres_len h
      rw [this, setBody_len]
    · cases h; rfl
theorem heredoc_le : ∀ {f : Nat} {s : Str} {i : Nat} {fin : Str} {tabs : Bool} {acc b : Str} {i' : Nat}, heredoc f s i fin tabs acc = some (b, i') → i < i' ∧ i' ≤ s.length
  | 0, _, _, _, _, _, _, _, h => by cases h
  | f + 1, s, i, fin, tabs, acc, b, i', h => by
    by_cases hlt : i < s.length
    · rw [hd_s hlt] at h
      obtain ⟨n1, n2, _⟩ := nextI_lt hlt
      split at h
      · cases h; exact ⟨n1, n2⟩
      · have := heredoc_le h; omega
    · rw [hd_e (by omega)] at h; cases h
theorem heres_le : ∀ {s : Str} {ws : List Wt} {out : List Tok} {i : Nat} {o' : List Tok} {i' : Nat} {e : Option (Int × Nat)}, heres s out i ws = (o', i', e) → i ≤ s.length → i ≤ i' ∧ i' ≤ s.length
  | s, [], out, i, o', i', e, h, hi => by cases h; exact ⟨Nat.le_refl _, hi⟩
  | s, w :: ws, out, i, o', i', e, h, hi => by
    rw [heres_c] at h
    split at h
    · rename_i b i2 hb
      have h1 := heredoc_le hb
      have h2 := heres_le h h1.2
      omega
    · cases h; exact ⟨Nat.le_refl _, hi⟩
theorem wordP_le : ∀ {f : Nat} {s : Str} {i j : Nat} {e : Option (Int × Nat)}, wordP f s i = (j, e) → i ≤ s.length → i ≤ j ∧ j ≤ s.length
  | 0, s, i, j, e, h, hi => by cases h; exact ⟨Nat.le_refl _, hi⟩
  | f + 1, s, i, j, e, h, hi => by
    by_cases hlt : i < s.length
    · rw [wd_s hlt] at h
      split at h
      · cases h; exact ⟨Nat.le_refl _, hi⟩
      · split at h
        · rename_i n hn
          have h1 := go_ok hn
          rw [List.length_drop] at h1
          have := wordP_le h (by omega)
          omega
        · cases h; exact ⟨Nat.le_refl _, hi⟩
        · cases h; exact ⟨Nat.le_refl _, hi⟩
    · rw [wd_e (by omega)] at h
      cases h; exact ⟨Nat.le_refl _, hi⟩
/-- A word is not empty. -/
theorem wordP_lt {f : Nat} {s : Str} {i j : Nat} (h : wordP (f + 1) s i = (j, none)) (hi : i < s.length) (hm : metaB s[i] = false) : i < j := by
  rw [wd_s hi, if_neg (by rw [hm]; decide)] at h
  split at h
  · rename_i n hn
    have h1 := go_ok hn
    rw [List.length_drop] at h1
    have := wordP_le h (by omega)
    omega
  · cases h
  · rename_i hc
    exact absurd hc (go_cut (f := 2099999) (fun h => by have := congrArg List.length h; rw [List.length_drop] at this; simp at this; omega))
/-- A byte that ends words begins an operator, or is a blank, or ends a line. -/
theorem meta_all : (List.range 256).all (fun n => !metaB (UInt8.ofNat n) || (blankB (UInt8.ofNat n) || decide (UInt8.ofNat n = 10) || [124, 38, 59, 60, 62, 40, 41].contains (UInt8.ofNat n))) = true := by kernel_rfl
theorem opAt_of {c : UInt8} {t : Str} (h : [124, 38, 59, 60, 62, 40, 41].contains c = true) : opAt (c :: t) ≠ none := by
  intro hn
  unfold opAt at hn
  rw [List.find?_eq_none] at hn
  have h1 := hn [c] (by
    have : ∀ c : UInt8, [124, 38, 59, 60, 62, 40, 41].contains c = true → [c] ∈ ops16 := by
      intro c hc
      simp at hc
      rcases hc with rfl | rfl | rfl | rfl | rfl | rfl | rfl <;> decide
    exact this c h)
  simp [isPre] at h1
theorem not_meta {c : UInt8} {t : Str} (h1 : opAt (c :: t) = none) (h2 : ¬ blankB c = true) (h3 : ¬ c = 10) : metaB c = false := by
  have h := List.all_eq_true.1 meta_all c.toNat (List.mem_range.2 c.toNat_lt)
  rw [UInt8.ofNat_toNat] at h
  cases hm : metaB c with
  | false => rfl
  | true =>
    rw [hm] at h
    simp only [Bool.not_true, Bool.false_or, Bool.or_eq_true, decide_eq_true_iff] at h
    rcases h with (h | h) | h
    · exact absurd h h2
    · exact absurd h h3
    · exact absurd h1 (opAt_of h)
theorem setRaw_len (out : List Tok) (n : Nat) : (setRaw out n).length = out.length := by
  unfold setRaw
  split
  · exact List.length_set
  · rfl
/-- What is next, as one of a few. -/
theorem step_eq {s : Str} {out : List Tok} {ws : List Wt} {i : Nat} (hi : i < s.length) : stepL s ⟨out, ws, i⟩ = match opAt (s.drop i) with
    | some o => (⟨out ++ [⟨2, o, i, [], some false⟩], ws, i + o.length⟩, none)
    | none =>
      if isPre [92, 10] (s.drop i) = true then (⟨out, ws, i + 2⟩, none)
      else if blankB s[i] = true then (⟨out, ws, i + 1⟩, none)
      else if s[i] = 35 then (⟨out, ws, i + lineN (s.drop i)⟩, none)
      else if s[i] = 10 then
        (match heres s out (i + 1) ws with
        | (out, i', none) => (⟨out ++ [⟨3, [10], i, [], some false⟩], [], i'⟩, none)
        | (out, i', some e) => (⟨out, ws, i'⟩, some e))
      else
        (match wordP (s.length + 1) s i with
        | (j, none) => (ofWord s ⟨out, ws, i⟩ j, none)
        | (j, some e) => (⟨out, ws, i⟩, some e)) := by
  unfold stepL
  rw [drop_c hi]
  rfl
theorem ofWord_len (s : Str) (st : LS) (j : Nat) : (ofWord s st j).out.length = st.out.length + 1 ∧ (ofWord s st j).ws.length ≤ st.ws.length + 1 ∧ ∀ w, w ∈ (ofWord s st j).ws → w ∈ st.ws ∨ w.op < st.out.length := by
  unfold ofWord
  dsimp only
  split
  · exact ⟨by simp, by simp, fun w hw => .inl hw⟩
  · split
    · rename_i t ht
      split
      · refine ⟨by rw [setRaw_len]; simp, by simp, fun w hw => ?_⟩
        rcases List.mem_append.1 hw with hw | hw
        · exact .inl hw
        · simp only [List.mem_singleton] at hw
          subst hw
          exact .inr (List.getElem?_eq_some_iff.1 ht).1
      · exact ⟨by simp, by simp, fun w hw => .inl hw⟩
    · exact ⟨by simp, by simp, fun w hw => .inl hw⟩
/-- How much there is. -/
structure InvM (s : Str) (st : LS) : Prop where
  i : st.i ≤ s.length
  o : st.out.length ≤ st.i
  w : st.ws.length ≤ st.i
  p : ∀ w, w ∈ st.ws → w.op < st.out.length
theorem InvM.step {s : Str} {st st' : LS} {e : Option (Int × Nat)} (h : InvM s st) (hi : st.i < s.length) (hs : stepL s st = (st', e)) : (e = none → st.i < st'.i ∧ InvM s st') ∧ st'.out.length ≤ s.length ∧ ∀ w, w ∈ st'.ws → w.op < st'.out.length := by
  obtain ⟨out, ws, i⟩ := st
  obtain ⟨h1, h2, h3, h4⟩ := h
  simp only at hi h1 h2 h3 h4
  rw [step_eq hi] at hs
  have dl : (s.drop i).length = s.length - i := List.length_drop
  split at hs
  · rename_i o ho
    obtain ⟨o1, o2⟩ := opAt_len ho
    cases hs
    refine ⟨fun _ => ⟨by show i < i + o.length; omega, by show i + o.length ≤ _; omega, by simp; omega, by show ws.length ≤ i + o.length; omega, fun w hw => by have := h4 w hw; simp; omega⟩, by simp; omega, fun w hw => by have := h4 w hw; simp; omega⟩
  rename_i hop
  split at hs
  · rename_i hp
    cases hs
    have : 2 ≤ (s.drop i).length := by
      unfold isPre at hp
      have h4 := congrArg List.length (of_decide_eq_true hp)
      rw [List.length_take] at h4
      simp at h4
      omega
    exact ⟨fun _ => ⟨by show i < i + 2; omega, by show i + 2 ≤ _; omega, by show out.length ≤ i + 2; omega, by show ws.length ≤ i + 2; omega, h4⟩, by show out.length ≤ _; omega, h4⟩
  split at hs
  · cases hs
    exact ⟨fun _ => ⟨by show i < i + 1; omega, by show i + 1 ≤ _; omega, by show out.length ≤ i + 1; omega, by show ws.length ≤ i + 1; omega, h4⟩, by show out.length ≤ _; omega, h4⟩
  rename_i hbl
  split at hs
  · rename_i hc
    cases hs
    have l1 := lineN_le (s.drop i)
    have l2 : 0 < lineN (s.drop i) := by
      unfold lineN
      rw [drop_c hi]
      have : posB 10 (s[i] :: s.drop (i + 1)) = (posB 10 (s.drop (i + 1))).map (· + 1) := by
        show (if s[i] = 10 then some 0 else _) = _
        rw [if_neg (by rw [hc]; decide)]
      rw [this]
      cases posB 10 (s.drop (i + 1)) with
      | none => simp; omega
      | some n => simp
    exact ⟨fun _ => ⟨by show i < i + lineN _; omega, by show i + lineN _ ≤ _; omega, by show out.length ≤ i + lineN _; omega, by show ws.length ≤ i + lineN _; omega, h4⟩, by show out.length ≤ _; omega, h4⟩
  split at hs
  · split at hs
    · rename_i o' i' hh
      cases hs
      have g1 := heres_len hh
      have g2 := heres_le hh (by omega)
      exact ⟨fun _ => ⟨by show i < i'; omega, g2.2, by simp; omega, by simp, fun w hw => by cases hw⟩, by simp; omega, fun w hw => by cases hw⟩
    · rename_i o' i' e' hh
      cases hs
      have g1 := heres_len hh
      exact ⟨fun h => (by cases h), by show o'.length ≤ _; omega, fun w hw => by rw [g1]; exact h4 w hw⟩
  rename_i hnl
  split at hs
  · rename_i j hw
    cases hs
    have g1 := wordP_lt hw hi (not_meta (by rw [← drop_c hi]; exact hop) hbl hnl)
    have g2 := wordP_le hw (by omega)
    have g3 := ofWord_len s ⟨out, ws, i⟩ j
    have g4 := ofWord_i s ⟨out, ws, i⟩ j
    simp only at g3
    refine ⟨fun _ => ⟨by rw [g4]; exact g1, by rw [g4]; exact g2.2, by rw [g4]; omega, by rw [g4]; omega, fun w hw => ?_⟩, by omega, fun w hw => ?_⟩
    · rcases g3.2.2 w hw with h | h
      · have := h4 w h; omega
      · omega
    · rcases g3.2.2 w hw with h | h
      · have := h4 w h; omega
      · omega
  · cases hs
    exact ⟨fun h => (by cases h), by show out.length ≤ _; omega, h4⟩
theorem InvM.l {s : Str} {st : LS} (h : InvM s st) (hs : s.length ≤ 1000000) : InvL s st := ⟨h.i, by have := h.o; have := h.i; omega, by have := h.w; have := h.i; omega, h.p⟩
section
variable {σ σ' : AS} {X : Ce} {R : List Ck} {k : Value → AS → Prop} {s : Str} {u w : Value}
theorem run_s {f : Nat} {s : Str} {st : LS} (h : st.i < s.length) : runL (f + 1) s st = match stepL s st with
      | (st', none) => runL f s st'
      | r => r := by
  conv => lhs; unfold runL
  rw [if_pos h]
  rfl
theorem isn_c {p : Nat} {e at_ n dp e' at'' : Int} {rest : List Value} (hn : ¬ e = 0) (h : Hs σ X (Cel p (rdC e at_ s n dp rest) :: R)) (hk : k undef σ) : kCall Tryd.prog 13 [pv p, .int .i64 e', .int .i64 at''] σ k := by
  refine f13 ?_
  (simp (maxSteps := 1000000) (dsimp := false) (disch := (first | omega | (simp only [okR]; done) | (simp only [sizeR] <;> omega) | fail)) only [↓preR, postR, ↓w_join, Nat.reduceEqDiff, Nat.reduceAdd, Nat.reduceSub, Nat.reduceMul, Int.reduceNeg, Nat.reduceLT, Int.reduceToNat, Nat.reduceLeDiff, Nat.sub_zero, F13, h.obj, hn])
  exact hk
/-- A text's tokens. -/
theorem lex_c (hs : s.length ≤ 1000000) (h : Hs σ X R) (hk : ∀ X' u σ', Ce.le X X' → Hs σ' X' (E.Own (α := Tok) u (lexP s).1 :: R) → k (.tuple #[u, .int .i64 ((lexP s).2.1 : Nat), .int .i64 (lexP s).2.2]) σ') :
    kCall Tryd.prog 8 [.string (bs s)] σ k := by
  refine f8 ?_
  unfold lexP at hk
  by_cases hbig : 4096 < s.length
  · rw [if_pos hbig] at hk
    (try simp (maxSteps := 1000000) (dsimp := false) (disch := (first | omega | (simp only [okR]; done) | (simp only [sizeR] <;> omega) | fail)) only [↓preR, postR, ↓w_stop, Nat.reduceEqDiff, Nat.reduceAdd, Nat.reduceSub, Nat.reduceMul, Int.reduceNeg, Nat.reduceLT, Int.reduceToNat, Nat.reduceLeDiff, Nat.sub_zero, F8])
    refine join_now ?_
    (try simp (maxSteps := 1000000) (dsimp := false) (disch := (first | omega | (simp only [okR]; done) | (simp only [sizeR] <;> omega) | fail)) only [↓preR, postR, ↓w_stop, Nat.reduceEqDiff, Nat.reduceAdd, Nat.reduceSub, Nat.reduceMul, Int.reduceNeg, Nat.reduceLT, Int.reduceToNat, Nat.reduceLeDiff, Nat.sub_zero])
    exact hk X _ _ (Ce.le_refl _) h.own0
  rw [if_neg hbig] at hk
  have h1 : Hs _ X (Cel σ.n (rdC 0 0 s 0 0 [.slice none 0 0, .slice none 0 0]) :: R) := h.new
  (try simp (maxSteps := 1000000) (dsimp := false) (disch := (first | omega | (simp only [okR]; done) | (simp only [sizeR] <;> omega) | fail)) only [↓preR, postR, ↓w_stop, Nat.reduceEqDiff, Nat.reduceAdd, Nat.reduceSub, Nat.reduceMul, Int.reduceNeg, Nat.reduceLT, Int.reduceToNat, Nat.reduceLeDiff, Nat.sub_zero, F8])
  refine join_now ?_
  (try simp (maxSteps := 1000000) (dsimp := false) (disch := (first | omega | (simp only [okR]; done) | (simp only [sizeR] <;> omega) | fail)) only [↓preR, postR, ↓w_stop, Nat.reduceEqDiff, Nat.reduceAdd, Nat.reduceSub, Nat.reduceMul, Int.reduceNeg, Nat.reduceLT, Int.reduceToNat, Nat.reduceLeDiff, Nat.sub_zero])
  generalize AS.new σ _ = s1 at h1 ⊢
  generalize σ.n = p at h1 ⊢
  have h2 : Hs s1 X (LxL p 0 0 s (0 : Nat) 0 (.slice none 0 0) (.slice none 0 0) ⟨[], [], 0⟩ R) := ((h1.own0 (α := Wt)).own0 (α := Tok)).rot2
  generalize hRun : runL (s.length + 1) s ⟨[], [], 0⟩ = W at hk
  refine join_by fun J2 hJ2 => ?_
  have tail0 : ∀ (X2 : Ce) (s2 : AS) (st : LS) (u w : Value), Ce.le X X2 → W = (st, none) → InvM s st → Hs s2 X2 (LxL p 0 0 s st.i 0 u w st R) → J2 [] s2 := by
    intro X2 s2 st u w hle hW hI h3
    refine hJ2 _ _ ?_
    clear hJ2
    rw [hW] at hk
    simp only at hk
    obtain ⟨wx, wc, rfl, _⟩ := (h3.front 2 rfl).own
    have ew : ∀ s3 : AS, True := fun _ => trivial
    clear ew
    (try simp (maxSteps := 1000000) (dsimp := false) (disch := (first | omega | (simp only [okR]; done) | (simp only [sizeR] <;> omega) | fail)) only [↓preR, postR, ↓w_stop, Nat.reduceEqDiff, Nat.reduceAdd, Nat.reduceSub, Nat.reduceMul, Int.reduceNeg, Nat.reduceLT, Int.reduceToNat, Nat.reduceLeDiff, Nat.sub_zero])
    refine join_by fun J3 hJ3 => ?_
    have fin0 : st.ws = [] → J3 [] s2 := by
      intro hws
      refine hJ3 _ _ ?_
      rw [hws] at hk
      simp only at hk
      (try simp (maxSteps := 1000000) (dsimp := false) (disch := (first | omega | (simp only [okR]; done) | (simp only [sizeR] <;> omega) | fail)) only [↓preR, postR, ↓w_stop, Nat.reduceEqDiff, Nat.reduceAdd, Nat.reduceSub, Nat.reduceMul, Int.reduceNeg, Nat.reduceLT, Int.reduceToNat, Nat.reduceLeDiff, Nat.sub_zero])
      refine join_now ?_
      (try simp (maxSteps := 1000000) (dsimp := false) (disch := (first | omega | (simp only [okR]; done) | (simp only [sizeR] <;> omega) | fail)) only [↓preR, postR, ↓w_stop, Nat.reduceEqDiff, Nat.reduceAdd, Nat.reduceSub, Nat.reduceMul, Int.reduceNeg, Nat.reduceLT, Int.reduceToNat, Nat.reduceLeDiff, Nat.sub_zero])
      refine wrong_c h3 ?_
      (try simp (maxSteps := 1000000) (dsimp := false) (disch := (first | omega | (simp only [okR]; done) | (simp only [sizeR] <;> omega) | fail)) only [↓preR, postR, ↓w_stop, Nat.reduceEqDiff, Nat.reduceAdd, Nat.reduceSub, Nat.reduceMul, Int.reduceNeg, Nat.reduceLT, Int.reduceToNat, Nat.reduceLeDiff, Nat.sub_zero, h3.obj])
      exact hk X2 u s2 hle ((h3.swap.front 2 rfl).drop.swap.drop)
    have fin1 : ∀ (wt : Wt) (r : List Wt), st.ws = wt :: r → ∀ s3 : AS, Hs s3 X2 (LxL p 12 (atOf st.out wt.op) s st.i 0 u (.slice wx st.ws.length wc) st R) → J3 [] s3 := by
      intro wt r hws s3 h4
      refine hJ3 _ _ ?_
      rw [hws] at hk
      simp only at hk
      (try simp (maxSteps := 1000000) (dsimp := false) (disch := (first | omega | (simp only [okR]; done) | (simp only [sizeR] <;> omega) | fail)) only [↓preR, postR, ↓w_stop, Nat.reduceEqDiff, Nat.reduceAdd, Nat.reduceSub, Nat.reduceMul, Int.reduceNeg, Nat.reduceLT, Int.reduceToNat, Nat.reduceLeDiff, Nat.sub_zero])
      refine join_now ?_
      (try simp (maxSteps := 1000000) (dsimp := false) (disch := (first | omega | (simp only [okR]; done) | (simp only [sizeR] <;> omega) | fail)) only [↓preR, postR, ↓w_stop, Nat.reduceEqDiff, Nat.reduceAdd, Nat.reduceSub, Nat.reduceMul, Int.reduceNeg, Nat.reduceLT, Int.reduceToNat, Nat.reduceLeDiff, Nat.sub_zero])
      refine wrong_c h4 ?_
      (try simp (maxSteps := 1000000) (dsimp := false) (disch := (first | omega | (simp only [okR]; done) | (simp only [sizeR] <;> omega) | fail)) only [↓preR, postR, ↓w_stop, Nat.reduceEqDiff, Nat.reduceAdd, Nat.reduceSub, Nat.reduceMul, Int.reduceNeg, Nat.reduceLT, Int.reduceToNat, Nat.reduceLeDiff, Nat.sub_zero, h4.obj])
      exact hk X2 u s3 hle ((h4.swap.front 2 rfl).drop.swap.drop)
    clear hJ3
    cases hws : st.ws with
    | nil =>
      rw [hws] at h3
      (try simp (maxSteps := 1000000) (dsimp := false) (disch := (first | omega | (simp only [okR]; done) | (simp only [sizeR] <;> omega) | fail)) only [↓preR, postR, ↓w_stop, Nat.reduceEqDiff, Nat.reduceAdd, Nat.reduceSub, Nat.reduceMul, Int.reduceNeg, Nat.reduceLT, Int.reduceToNat, Nat.reduceLeDiff, Nat.sub_zero, h3.obj])
      exact fin0 hws
    | cons wt r =>
      have hlen : st.ws.length = r.length + 1 := by rw [hws]; rfl
      have hlt : 0 < st.ws.length := by omega
      obtain ⟨g', c, ys, g, f1, hm, hy, hWt⟩ := wt_at (h3.front 2 rfl) hlt
      injection f1 with f1 _ _
      subst f1
      have hop : (st.ws[0]).op < st.out.length := hI.p _ (List.getElem_mem hlt)
      have hw0 : st.ws[0] = wt := by simp [hws]
      rw [hw0] at hop hWt
      obtain ⟨tg, tc, ys2, b2, rfl, _, htm, hm2, _, _, _, _, y2, _⟩ := tok_at h3.swap hop
      obtain ⟨x0, x1, x2, _⟩ := hWt
      have g0 := h3.ldx x0
      unfold maxLen at htm
      rw [hws] at fin1
      rw [hws] at h3
      (try simp (maxSteps := 1000000) (dsimp := false) (disch := (first | omega | (simp only [okR]; done) | (simp only [sizeR] <;> omega) | fail)) only [↓preR, postR, ↓w_stop, Nat.reduceEqDiff, Nat.reduceAdd, Nat.reduceSub, Nat.reduceMul, Int.reduceNeg, Nat.reduceLT, Int.reduceToNat, Nat.reduceLeDiff, Nat.sub_zero, h3.obj, hm, hy, g0, hm2, y2])
      refine isb_c h3 fun v s3 h4 => ?_
      (try simp (maxSteps := 1000000) (dsimp := false) (disch := (first | omega | (simp only [okR]; done) | (simp only [sizeR] <;> omega) | fail)) only [↓preR, postR, ↓w_stop, Nat.reduceEqDiff, Nat.reduceAdd, Nat.reduceSub, Nat.reduceMul, Int.reduceNeg, Nat.reduceLT, Int.reduceToNat, Nat.reduceLeDiff, Nat.sub_zero, h4.obj])
      refine fin1 wt r rfl s3 ?_
      have e : atOf st.out wt.op = st.out[wt.op].at' := by unfold atOf; rw [List.getElem?_eq_getElem hop]
      rw [e]
      exact h4
  have tailE : ∀ (X2 : Ce) (s2 : AS) (st : LS) (u w : Value) (e : Int) (b at' dp : Nat), Ce.le X X2 → W = (st, some (e, b)) → ¬ e = 0 → (∀ w, w ∈ st.ws → w.op < st.out.length) → Hs s2 X2 (LxL p e b s at' dp u w st R) → J2 [] s2 := by
    intro X2 s2 st u w e b at' dp hle hW he hop h3
    refine hJ2 _ _ ?_
    clear hJ2
    rw [hW] at hk
    simp only at hk
    obtain ⟨wx, wc, rfl, _⟩ := (h3.front 2 rfl).own
    (try simp (maxSteps := 1000000) (dsimp := false) (disch := (first | omega | (simp only [okR]; done) | (simp only [sizeR] <;> omega) | fail)) only [↓preR, postR, ↓w_stop, Nat.reduceEqDiff, Nat.reduceAdd, Nat.reduceSub, Nat.reduceMul, Int.reduceNeg, Nat.reduceLT, Int.reduceToNat, Nat.reduceLeDiff, Nat.sub_zero])
    refine join_by fun J3 hJ3 => ?_
    have fin : J3 [] s2 := by
      refine hJ3 _ _ ?_
      (try simp (maxSteps := 1000000) (dsimp := false) (disch := (first | omega | (simp only [okR]; done) | (simp only [sizeR] <;> omega) | fail)) only [↓preR, postR, ↓w_stop, Nat.reduceEqDiff, Nat.reduceAdd, Nat.reduceSub, Nat.reduceMul, Int.reduceNeg, Nat.reduceLT, Int.reduceToNat, Nat.reduceLeDiff, Nat.sub_zero])
      refine join_now ?_
      (try simp (maxSteps := 1000000) (dsimp := false) (disch := (first | omega | (simp only [okR]; done) | (simp only [sizeR] <;> omega) | fail)) only [↓preR, postR, ↓w_stop, Nat.reduceEqDiff, Nat.reduceAdd, Nat.reduceSub, Nat.reduceMul, Int.reduceNeg, Nat.reduceLT, Int.reduceToNat, Nat.reduceLeDiff, Nat.sub_zero])
      refine wrong_c h3 ?_
      (try simp (maxSteps := 1000000) (dsimp := false) (disch := (first | omega | (simp only [okR]; done) | (simp only [sizeR] <;> omega) | fail)) only [↓preR, postR, ↓w_stop, Nat.reduceEqDiff, Nat.reduceAdd, Nat.reduceSub, Nat.reduceMul, Int.reduceNeg, Nat.reduceLT, Int.reduceToNat, Nat.reduceLeDiff, Nat.sub_zero, h3.obj, he])
      exact hk X2 u s2 hle ((h3.swap.front 2 rfl).drop.swap.drop)
    clear hJ3
    cases hws : st.ws with
    | nil =>
      rw [hws] at h3
      (try simp (maxSteps := 1000000) (dsimp := false) (disch := (first | omega | (simp only [okR]; done) | (simp only [sizeR] <;> omega) | fail)) only [↓preR, postR, ↓w_stop, Nat.reduceEqDiff, Nat.reduceAdd, Nat.reduceSub, Nat.reduceMul, Int.reduceNeg, Nat.reduceLT, Int.reduceToNat, Nat.reduceLeDiff, Nat.sub_zero, h3.obj])
      exact fin
    | cons wt r =>
      have hlen : st.ws.length = r.length + 1 := by rw [hws]; rfl
      have hlt : 0 < st.ws.length := by omega
      obtain ⟨g', c, ys, g, f1, hm, hy, hWt⟩ := wt_at (h3.front 2 rfl) hlt
      injection f1 with f1 _ _
      subst f1
      have hopp : (st.ws[0]).op < st.out.length := hop _ (List.getElem_mem hlt)
      have hw0 : st.ws[0] = wt := by simp [hws]
      rw [hw0] at hopp hWt
      obtain ⟨tg, tc, ys2, b2, rfl, _, htm, hm2, _, _, _, _, y2, _⟩ := tok_at h3.swap hopp
      obtain ⟨x0, x1, x2, _⟩ := hWt
      have g0 := h3.ldx x0
      unfold maxLen at htm
      rw [hws] at h3
      (try simp (maxSteps := 1000000) (dsimp := false) (disch := (first | omega | (simp only [okR]; done) | (simp only [sizeR] <;> omega) | fail)) only [↓preR, postR, ↓w_stop, Nat.reduceEqDiff, Nat.reduceAdd, Nat.reduceSub, Nat.reduceMul, Int.reduceNeg, Nat.reduceLT, Int.reduceToNat, Nat.reduceLeDiff, Nat.sub_zero, h3.obj, hm, hy, g0, hm2, y2])
      refine isn_c he h3 ?_
      (try simp (maxSteps := 1000000) (dsimp := false) (disch := (first | omega | (simp only [okR]; done) | (simp only [sizeR] <;> omega) | fail)) only [↓preR, postR, ↓w_stop, Nat.reduceEqDiff, Nat.reduceAdd, Nat.reduceSub, Nat.reduceMul, Int.reduceNeg, Nat.reduceLT, Int.reduceToNat, Nat.reduceLeDiff, Nat.sub_zero, h3.obj])
      exact fin
  clear hJ2
  (try simp (maxSteps := 1000000) (dsimp := false) (disch := (first | omega | (simp only [okR]; done) | (simp only [sizeR] <;> omega) | fail)) only [↓preR, postR, ↓w_stop, Nat.reduceEqDiff, Nat.reduceAdd, Nat.reduceSub, Nat.reduceMul, Int.reduceNeg, Nat.reduceLT, Int.reduceToNat, Nat.reduceLeDiff, Nat.sub_zero])
  refine loop_inv (fun nn xs s2 => (∃ (X2 : Ce) (st : LS) (u w : Value) (f : Nat), Ce.le X X2 ∧ InvM s st ∧ s.length - st.i < f ∧ runL f s st = W ∧ Hs s2 X2 (LxL p 0 0 s st.i 0 u w st R) ∧ nn = s.length - st.i + 1) ∨
      (∃ (X2 : Ce) (st : LS) (u w : Value) (e : Int) (b at' dp : Nat), Ce.le X X2 ∧ W = (st, some (e, b)) ∧ ¬ e = 0 ∧ (∀ w, w ∈ st.ws → w.op < st.out.length) ∧ Hs s2 X2 (LxL p e b s at' dp u w st R) ∧ nn = 0)) _
    (.inl ⟨X, ⟨[], [], 0⟩, _, _, s.length + 1, Ce.le_refl _, ⟨Nat.zero_le _, Nat.le_refl _, Nat.le_refl _, fun w hw => by cases hw⟩, by omega, hRun, h2, rfl⟩) ?_
  rintro _ _ s2 again (⟨X2, st, u, w, f, hle, hI, hf, hr, h3, rfl⟩ | ⟨X2, st, u, w, e, b, at', dp, hle, hW, he, hop, h3, rfl⟩) hag
  rotate_left
  · (try simp (maxSteps := 1000000) (dsimp := false) (disch := (first | omega | (simp only [okR]; done) | (simp only [sizeR] <;> omega) | fail)) only [↓preR, postR, ↓w_stop, Nat.reduceEqDiff, Nat.reduceAdd, Nat.reduceSub, Nat.reduceMul, Int.reduceNeg, Nat.reduceLT, Int.reduceToNat, Nat.reduceLeDiff, Nat.sub_zero])
    refine join_now ?_
    by_cases hlt : at' < s.length
    · (try simp (maxSteps := 1000000) (dsimp := false) (disch := (first | omega | (simp only [okR]; done) | (simp only [sizeR] <;> omega) | fail)) only [↓preR, postR, ↓w_stop, Nat.reduceEqDiff, Nat.reduceAdd, Nat.reduceSub, Nat.reduceMul, Int.reduceNeg, Nat.reduceLT, Int.reduceToNat, Nat.reduceLeDiff, Nat.sub_zero, h3.obj])
      refine wrong_c h3 ?_
      (try simp (maxSteps := 1000000) (dsimp := false) (disch := (first | omega | (simp only [okR]; done) | (simp only [sizeR] <;> omega) | fail)) only [↓preR, postR, ↓w_stop, Nat.reduceEqDiff, Nat.reduceAdd, Nat.reduceSub, Nat.reduceMul, Int.reduceNeg, Nat.reduceLT, Int.reduceToNat, Nat.reduceLeDiff, Nat.sub_zero, he])
      exact tailE X2 s2 st u w e b at' dp hle hW he hop h3
    · (try simp (maxSteps := 1000000) (dsimp := false) (disch := (first | omega | (simp only [okR]; done) | (simp only [sizeR] <;> omega) | fail)) only [↓preR, postR, ↓w_stop, Nat.reduceEqDiff, Nat.reduceAdd, Nat.reduceSub, Nat.reduceMul, Int.reduceNeg, Nat.reduceLT, Int.reduceToNat, Nat.reduceLeDiff, Nat.sub_zero, h3.obj])
      exact tailE X2 s2 st u w e b at' dp hle hW he hop h3
  obtain ⟨f, rfl⟩ : ∃ f', f = f' + 1 := ⟨f - 1, by omega⟩
  (try simp (maxSteps := 1000000) (dsimp := false) (disch := (first | omega | (simp only [okR]; done) | (simp only [sizeR] <;> omega) | fail)) only [↓preR, postR, ↓w_stop, Nat.reduceEqDiff, Nat.reduceAdd, Nat.reduceSub, Nat.reduceMul, Int.reduceNeg, Nat.reduceLT, Int.reduceToNat, Nat.reduceLeDiff, Nat.sub_zero])
  refine join_now ?_
  by_cases hlt : st.i < s.length
  rotate_left
  · have hr : (st, none) = W := by rw [← hr]; unfold runL; rw [if_neg hlt]
    (try simp (maxSteps := 1000000) (dsimp := false) (disch := (first | omega | (simp only [okR]; done) | (simp only [sizeR] <;> omega) | fail)) only [↓preR, postR, ↓w_stop, Nat.reduceEqDiff, Nat.reduceAdd, Nat.reduceSub, Nat.reduceMul, Int.reduceNeg, Nat.reduceLT, Int.reduceToNat, Nat.reduceLeDiff, Nat.sub_zero, h3.obj])
    exact tail0 X2 s2 st u w hle hr.symm hI h3
  rw [run_s hlt] at hr
  (try simp (maxSteps := 1000000) (dsimp := false) (disch := (first | omega | (simp only [okR]; done) | (simp only [sizeR] <;> omega) | fail)) only [↓preR, postR, ↓w_stop, Nat.reduceEqDiff, Nat.reduceAdd, Nat.reduceSub, Nat.reduceMul, Int.reduceNeg, Nat.reduceLT, Int.reduceToNat, Nat.reduceLeDiff, Nat.sub_zero, h3.obj])
  refine wrong_c h3 ?_
  (try simp (maxSteps := 1000000) (dsimp := false) (disch := (first | omega | (simp only [okR]; done) | (simp only [sizeR] <;> omega) | fail)) only [↓preR, postR, ↓w_stop, Nat.reduceEqDiff, Nat.reduceAdd, Nat.reduceSub, Nat.reduceMul, Int.reduceNeg, Nat.reduceLT, Int.reduceToNat, Nat.reduceLeDiff, Nat.sub_zero])
  refine step_c hs (hI.l hs) hlt h3 (fun st' hst X3 u' w' v s3 hle3 h4 => ?_) (fun st' e b hst X3 u' v s3 at' dp hle3 hat he h4 => ?_)
  · rw [hst] at hr
    obtain ⟨g1, _⟩ := hI.step hlt hst
    obtain ⟨g2, g3⟩ := g1 rfl
    exact hag _ _ _ (.inl ⟨X3, st', u', w', f, Ce.le_trans hle hle3, g3, by have := g3.i; omega, hr, h4, rfl⟩) (by have := g3.i; omega)
  · rw [hst] at hr
    obtain ⟨_, g2, g3⟩ := hI.step hlt hst
    exact hag _ _ _ (.inr ⟨X3, st', u', w, e, b, at', dp, Ce.le_trans hle hle3, hr.symm, he, g3, h4, rfl⟩) (by omega)
end
end Go.Proofs.YtgijohcmkipkhaaDoor
