/- What is next is taken up. Conditions: as each theorem says. -/
import Derived.Test.YtgijohcmkipkhaaDoorLxL
namespace Go.Proofs.YtgijohcmkipkhaaDoor
open E Go.Lib
open Go.RowKit
set_option linter.unusedVariables false
set_option linter.unusedSimpArgs false
set_option maxHeartbeats 1000000
set_option maxRecDepth 20000

theorem setBody_len (out : List Tok) (n : Nat) (b : Str) : (setBody out n b).length = out.length := by
  unfold setBody
  split
  · exact List.length_set
  · rfl
theorem ofWord_i (s : Str) (st : LS) (j : Nat) : (ofWord s st j).i = j := by
  unfold ofWord
  dsimp only
  split
  · rfl
  · split
    · split <;> rfl
    · rfl
theorem heres_c (s : Str) (out : List Tok) (i : Nat) (w : Wt) (ws : List Wt) : heres s out i (w :: ws) = match heredoc (s.length + 1) s i w.fin w.tabs [] with
    | some (b, i') => heres s (setBody out w.op b) i' ws
    | none => (out, i, some (12, atOf out w.op)) := rfl
/-- How a lexer stands. -/
structure InvL (s : Str) (st : LS) : Prop where
  i : st.i ≤ s.length
  o : st.out.length ≤ 1000000
  w : st.ws.length ≤ 1000000
  p : ∀ w, w ∈ st.ws → w.op < st.out.length
section
variable {σ σ' : AS} {X : Ce} {R : List Ck} {k : Value → AS → Prop} {p g i j : Nat} {s : Str} {u w : Value} {out : List Tok} {ws : List Wt} {st : LS}
/-- A wait, as it lies. -/
theorem wt_at (h : Hs σ X (E.Own (α := Wt) w ws :: R)) (hj : j < ws.length) : ∃ g' c ys g, w = .slice (some ⟨g', 0, none⟩) ws.length c ∧ σ.m g' = some (.cells ys) ∧ ys[j]? = some (pv g) ∧ WtP X ws[j] g := by
  obtain ⟨g', c, cs, ys, h1, h2, h3, ⟨g, rfl, h4⟩, h5, h6, h7, h8⟩ := Own.cell h hj
  have := h7 0 _ rfl
  exact ⟨g', c, ys, g, h1, h5, by simpa [Rp.sz] using this, h4⟩
theorem step_c (hs : s.length ≤ 1000000) (hI : InvL s st) (hi : st.i < s.length) (h : Hs σ X (LxL p 0 0 s st.i 0 u w st R))
    (hk0 : ∀ st', stepL s st = (st', none) → ∀ X' u' w' v σ', Ce.le X X' → Hs σ' X' (LxL p 0 0 s st'.i 0 u' w' st' R) → k v σ')
    (hk1 : ∀ st' e b, stepL s st = (st', some (e, b)) → ∀ X' u' v σ' (at' dp : Nat), Ce.le X X' → at' ≤ s.length → ¬ e = 0 → Hs σ' X' (LxL p e b s at' dp u' w st' R) → k v σ') :
    kCall Tryd.prog 12 [pv p] σ k := by
  obtain ⟨out, ws, i⟩ := st
  simp only at hi h
  obtain ⟨hI1, hI2, hI3, hI4⟩ := hI
  simp only at hI1 hI2 hI3 hI4
  have hst : stepL s ⟨out, ws, i⟩ = match opAt (s.drop i) with
    | some o => (⟨out ++ [⟨2, o, i, [], some false⟩], ws, i + o.length⟩, none)
    | none =>
      if isPre [92, 10] (s.drop i) = true then (⟨out, ws, i + 2⟩, none)
      else if blankB s[i] = true then (⟨out, ws, i + 1⟩, none)
      else if s[i] = 35 then (⟨out, ws, i + lineN (s.drop i)⟩, none)
      else if s[i] = 10 then
        (match heres s out (i + 1) ws with
        | (out, i', none) => (⟨out ++ [⟨3, [10], i, [], some false⟩], [], i'⟩, none)
        | (out, i', some e) => (⟨out, ws, i'⟩, some e))
      else
        (match wordP (s.length + 1) s i with
        | (j, none) => (ofWord s ⟨out, ws, i⟩ j, none)
        | (j, some e) => (⟨out, ws, i⟩, some e)) := by
    unfold stepL
    rw [drop_c hi]
    rfl
  generalize hS : stepL s ⟨out, ws, i⟩ = S at hk0 hk1 hst
  clear hS
  refine f12 ?_
  have hz := h.new (cs := [.string (bs [])])
  have h1 : Hs _ X (Cel σ.n [.string (bs (s.drop i))] :: LxL p 0 0 s i 0 u w ⟨out, ws, i⟩ R) := hz.put
  (try simp (maxSteps := 1000000) (dsimp := false) (disch := (first | omega | (simp only [okR]; done) | (simp only [sizeR] <;> omega) | fail)) only [↓preR, postR, ↓w_stop, Nat.reduceEqDiff, Nat.reduceAdd, Nat.reduceSub, Nat.reduceMul, Int.reduceNeg, Nat.reduceLT, Int.reduceToNat, Nat.reduceLeDiff, Nat.sub_zero, F12, h.obj, hz.obj1, drop_all])
  generalize AS.put _ _ _ = s1 at h1 ⊢
  generalize σ.n = q at h1 ⊢
  clear hz h
  refine join_by fun J1 hJ1 => ?_
  have tail1 : ∀ (X2 : Ce) (s2 : AS), Ce.le X X2 → opAt (s.drop i) = none → Hs s2 X2 (Cel q [.string (bs (s.drop i))] :: LxL p 0 0 s i 0 u w ⟨out, ws, i⟩ R) → J1 [] s2 := by
    intro X2 s2 hle hop h2
    refine hJ1 _ _ ?_
    clear hJ1 h1
    rw [hop] at hst
    simp only at hst
    have hlen : (s.drop i).length = s.length - i := List.length_drop
    have g0 : (((s.drop i)[0]?).getD 0) = s[i] := by rw [drop_c hi]; rfl
    have hle0 : 0 < (s.drop i).length := by omega
    -- only the place goes on
    have move : ∀ (s4 : AS) (n : Nat) (iv : Int), iv = ((i + n : Nat) : Int) → S = (⟨out, ws, i + n⟩, none) → Hs s4 X2 (Cel q [.string (bs (s.drop i))] :: LxL p 0 0 s i 0 u w ⟨out, ws, i⟩ R) → k undef (s4.put p (.cells (rdC 0 0 s iv 0 [u, w]))) := by
      intro s4 n iv hiv hSS h4
      subst hiv
      exact hk0 _ hSS X2 u w undef _ hle h4.put1.drop
    (try simp (maxSteps := 1000000) (dsimp := false) (disch := (first | omega | (simp only [okR]; done) | (simp only [sizeR] <;> omega) | fail)) only [↓preR, postR, ↓w_stop, Nat.reduceEqDiff, Nat.reduceAdd, Nat.reduceSub, Nat.reduceMul, Int.reduceNeg, Nat.reduceLT, Int.reduceToNat, Nat.reduceLeDiff, Nat.sub_zero, h2.obj])
    refine pref_c (pre := [92, 10]) (by unfold maxLen; omega) ?_
    by_cases hbn : isPre [92, 10] (s.drop i) = true
    · rw [if_pos hbn] at hst
      have hT : (List.take 2 (s.drop i) = [92, 10]) = True := eq_true (by unfold isPre at hbn; exact of_decide_eq_true hbn)
      (try simp (maxSteps := 1000000) (dsimp := false) (disch := (first | omega | (simp only [okR]; done) | (simp only [sizeR] <;> omega) | fail)) only [↓preR, postR, ↓w_stop, Nat.reduceEqDiff, Nat.reduceAdd, Nat.reduceSub, Nat.reduceMul, Int.reduceNeg, Nat.reduceLT, Int.reduceToNat, Nat.reduceLeDiff, Nat.sub_zero, hT, h2.obj1])
      exact move s2 2 _ (by omega) hst h2
    rw [if_neg hbn] at hst
    have hF : (List.take 2 (s.drop i) = [92, 10]) = False := eq_false (fun h => hbn (by unfold isPre; exact decide_eq_true h))
    (try simp (maxSteps := 1000000) (dsimp := false) (disch := (first | omega | (simp only [okR]; done) | (simp only [sizeR] <;> omega) | fail)) only [↓preR, postR, ↓w_stop, Nat.reduceEqDiff, Nat.reduceAdd, Nat.reduceSub, Nat.reduceMul, Int.reduceNeg, Nat.reduceLT, Int.reduceToNat, Nat.reduceLeDiff, Nat.sub_zero, hF, h2.obj, g0])
    refine blank_c rfl h2 fun s3 h3 => ?_
    cases hbl : blankB s[i] with
    | true =>
      rw [if_pos hbl] at hst
      (try simp (maxSteps := 1000000) (dsimp := false) (disch := (first | omega | (simp only [okR]; done) | (simp only [sizeR] <;> omega) | fail)) only [↓preR, postR, ↓w_stop, Nat.reduceEqDiff, Nat.reduceAdd, Nat.reduceSub, Nat.reduceMul, Int.reduceNeg, Nat.reduceLT, Int.reduceToNat, Nat.reduceLeDiff, Nat.sub_zero, h3.obj1])
      exact move s3 1 _ (by omega) hst h3
    | false =>
      rw [if_neg (by rw [hbl]; decide)] at hst
      have tt : ∀ (x : UInt8) (n : Int), n = x.toNat → s[i] = x → ((s[i].toNat : Int) = n) = True := fun x n hn h => eq_true (by rw [hn, h])
      have ff : ∀ (x : UInt8) (n : Int), n = x.toNat → ¬ s[i] = x → ((s[i].toNat : Int) = n) = False := fun x n hn h => eq_false (fun h' => h (UInt8.toNat_inj.1 (by omega)))
      by_cases c1 : s[i] = 35
      · rw [if_pos c1] at hst
        (try simp (maxSteps := 1000000) (dsimp := false) (disch := (first | omega | (simp only [okR]; done) | (simp only [sizeR] <;> omega) | fail)) only [↓preR, postR, ↓w_stop, Nat.reduceEqDiff, Nat.reduceAdd, Nat.reduceSub, Nat.reduceMul, Int.reduceNeg, Nat.reduceLT, Int.reduceToNat, Nat.reduceLeDiff, Nat.sub_zero, h3.obj, g0, tt 35 35 rfl c1])
        refine cut_c (by omega) fun rest => ?_
        have ll := lineN_le (s.drop i)
        have tl : ((s.drop i).take (lineN (s.drop i))).length = lineN (s.drop i) := by rw [List.length_take]; omega
        generalize hln : lineN (s.drop i) = ln at hst ll tl ⊢
        have tlI : (((s.drop i).take ln).length : Int) = (ln : Int) := by rw [tl]
        (try simp (maxSteps := 1000000) (dsimp := false) (disch := (first | omega | (simp only [okR]; done) | (simp only [sizeR] <;> omega) | fail)) only [↓preR, postR, ↓w_stop, Nat.reduceEqDiff, Nat.reduceAdd, Nat.reduceSub, Nat.reduceMul, Int.reduceNeg, Nat.reduceLT, Int.reduceToNat, Nat.reduceLeDiff, Nat.sub_zero, h3.obj1, tlI, ↓tlI])
        exact move s3 ln _ (by omega) hst h3
      rw [if_neg c1] at hst
      by_cases c2 : s[i] = 10
      rotate_left
      · rw [if_neg c2] at hst
        (try simp (maxSteps := 1000000) (dsimp := false) (disch := (first | omega | (simp only [okR]; done) | (simp only [sizeR] <;> omega) | fail)) only [↓preR, postR, ↓w_stop, Nat.reduceEqDiff, Nat.reduceAdd, Nat.reduceSub, Nat.reduceMul, Int.reduceNeg, Nat.reduceLT, Int.reduceToNat, Nat.reduceLeDiff, Nat.sub_zero, h3.obj, g0, ff 35 35 rfl c1, ff 10 10 rfl c2])
        refine word_c (out := out) (ws := ws) (i := i) hs hi hI2 hI3 h3.drop (fun j hW X3 u' w' v s4 hle3 h4 => ?_) (fun j e b hW v s4 at' dp hat he h4 => ?_)
        · rw [hW] at hst
          exact hk0 _ hst X3 u' w' undef s4 (Ce.le_trans hle hle3) (by
            rw [ofWord_i]; exact h4)
        · rw [hW] at hst
          exact hk1 _ _ _ hst X2 u undef s4 at' dp hle hat he h4
      · rw [if_pos c2] at hst
        (try simp (maxSteps := 1000000) (dsimp := false) (disch := (first | omega | (simp only [okR]; done) | (simp only [sizeR] <;> omega) | fail)) only [↓preR, postR, ↓w_stop, Nat.reduceEqDiff, Nat.reduceAdd, Nat.reduceSub, Nat.reduceMul, Int.reduceNeg, Nat.reduceLT, Int.reduceToNat, Nat.reduceLeDiff, Nat.sub_zero, h3.obj, g0, ff 35 35 rfl c1, tt 10 10 rfl c2])
        generalize hH : heres s out (i + 1) ws = H at hst
        have hz := h3.new (cs := [.int .i64 0, .string (bs []), .int .i64 0, .string (bs []), .bool false])
        have h4 : Hs _ X2 (Cel s3.n (tokC (Tok.mk 3 [10] i [] (some false)) false) :: Cel q [.string (bs (s.drop i))] :: LxL p 0 0 s i 0 u w ⟨out, ws, i⟩ R) := hz.put
        have e4 := (h4.front 2 rfl).obj
        have h5 := h4.put2 (cs' := rdC 0 0 s ((i : Int) + 1) 0 [u, w])
        have h6 : Hs _ X2 (Cel p (rdC 0 0 s ((i : Int) + 1) 0 [u, w]) :: E.Own (α := Tok) u out :: E.Own (α := Wt) w ws :: Cel s3.n (tokC (Tok.mk 3 [10] i [] (some false)) false) :: Cel q [.string (bs (s.drop i))] :: R) := (h5.front 4 rfl).front 4 rfl |>.front 4 rfl
        (try simp (maxSteps := 1000000) (dsimp := false) (disch := (first | omega | (simp only [okR]; done) | (simp only [sizeR] <;> omega) | fail)) only [↓preR, postR, ↓w_stop, Nat.reduceEqDiff, Nat.reduceAdd, Nat.reduceSub, Nat.reduceMul, Int.reduceNeg, Nat.reduceLT, Int.reduceToNat, Nat.reduceLeDiff, Nat.sub_zero, h3.obj1, e4])
        generalize AS.put _ p _ = s6 at h6 ⊢
        generalize s3.n = tp at h6 ⊢
        clear h5 h4 hz e4 h3 h2
        have hei : ((i : Int) + 1) = ((i + 1 : Nat) : Int) := by omega
        rw [hei] at h6
        obtain ⟨wx, wc, rfl, _⟩ := (h6.front 2 rfl).own
        refine join_by fun J2 hJ2 => ?_
        have tail0 : ∀ (s7 : AS) (o' : List Tok) (i' : Nat), H = (o', i', none) → o'.length = out.length → i' ≤ s.length → Hs s7 X2 (Cel p (rdC 0 0 s i' 0 [u, .slice wx ws.length wc]) :: E.Own (α := Tok) u o' :: E.Own (α := Wt) (.slice wx ws.length wc) ws :: Cel tp (tokC (Tok.mk 3 [10] i [] (some false)) false) :: Cel q [.string (bs (s.drop i))] :: R) → J2 [] s7 := by
          intro s7 o' i' hHH hol hi' h7
          refine hJ2 _ _ ?_
          clear hJ2 h6
          rw [hHH] at hst
          simp only at hst
          (try simp (maxSteps := 1000000) (dsimp := false) (disch := (first | omega | (simp only [okR]; done) | (simp only [sizeR] <;> omega) | fail)) only [↓preR, postR, ↓w_stop, Nat.reduceEqDiff, Nat.reduceAdd, Nat.reduceSub, Nat.reduceMul, Int.reduceNeg, Nat.reduceLT, Int.reduceToNat, Nat.reduceLeDiff, Nat.sub_zero])
          refine wrong_c h7 ?_
          have h8 := h7.put (cs' := rdC 0 0 s i' 0 [u, .slice none 0 0])
          have e8 := (h8.front 3 rfl).obj
          (try simp (maxSteps := 1000000) (dsimp := false) (disch := (first | omega | (simp only [okR]; done) | (simp only [sizeR] <;> omega) | fail)) only [↓preR, postR, ↓w_stop, Nat.reduceEqDiff, Nat.reduceAdd, Nat.reduceSub, Nat.reduceMul, Int.reduceNeg, Nat.reduceLT, Int.reduceToNat, Nat.reduceLeDiff, Nat.sub_zero, h7.obj, h8.obj, e8])
          generalize AS.put _ _ _ = s8 at h8 e8 ⊢
          have h9 := h8.swap
          obtain ⟨ux, uc, rfl, _⟩ := h9.own
          have hz := h9.new (cs := tokC (Tok.mk 3 [10] i [] (some false)) false)
          have ez := (hz.front 2 rfl).obj
          (try simp (maxSteps := 1000000) (dsimp := false) (disch := (first | omega | (simp only [okR]; done) | (simp only [sizeR] <;> omega) | fail)) only [↓preR, postR, ↓w_stop, Nat.reduceEqDiff, Nat.reduceAdd, Nat.reduceSub, Nat.reduceMul, Int.reduceNeg, Nat.reduceLT, Int.reduceToNat, Nat.reduceLeDiff, Nat.sub_zero, ez, h9.obj1])
          refine push_by h9 (e := 28) (bytes := 56) (by kernel_rfl) (by kernel_rfl) (a := Tok.mk 3 [10] i [] (some false)) ⟨false, rfl, fun x hx => by cases hx; rfl, by unfold inI64; show -9223372036854775808 ≤ (3 : Int) ∧ (3 : Int) ≤ 9223372036854775807; omega, by show i ≤ 1000000; omega, by simp, by simp⟩ (by omega) (by unfold maxLen; omega) fun v' s9 h10 => ?_
          obtain ⟨vx, vc, rfl, _⟩ := h10.own
          have h11 := h10.put1 (cs' := rdC 0 0 s i' 0 [.slice vx (o' ++ [(Tok.mk 3 [10] i [] (some false))]).length vc, .slice none 0 0])
          (try simp (maxSteps := 1000000) (dsimp := false) (disch := (first | omega | (simp only [okR]; done) | (simp only [sizeR] <;> omega) | fail)) only [↓preR, postR, ↓w_stop, Nat.reduceEqDiff, Nat.reduceAdd, Nat.reduceSub, Nat.reduceMul, Int.reduceNeg, Nat.reduceLT, Int.reduceToNat, Nat.reduceLeDiff, Nat.sub_zero, h10.obj1])
          refine hk0 _ hst X2 (.slice vx (o' ++ [(Tok.mk 3 [10] i [] (some false))]).length vc) (.slice none 0 0) undef _ hle ?_
          have h12 := (((h11.front 2 rfl).drop.front 2 rfl).drop.front 2 rfl).drop
          exact (h12.swap.own0 (α := Wt)).un2
        have tailE : ∀ (s7 : AS) (o' : List Tok) (i' b at' : Nat) (e : Int), H = (o', i', some (e, b)) → ¬ e = 0 → at' ≤ s.length → Hs s7 X2 (Cel p (rdC e b s at' 0 [u, .slice wx ws.length wc]) :: E.Own (α := Tok) u o' :: E.Own (α := Wt) (.slice wx ws.length wc) ws :: Cel tp (tokC (Tok.mk 3 [10] i [] (some false)) false) :: Cel q [.string (bs (s.drop i))] :: R) → J2 [] s7 := by
          intro s7 o' i' b at' e hHH he hat h7
          refine hJ2 _ _ ?_
          rw [hHH] at hst
          simp only at hst
          (try simp (maxSteps := 1000000) (dsimp := false) (disch := (first | omega | (simp only [okR]; done) | (simp only [sizeR] <;> omega) | fail)) only [↓preR, postR, ↓w_stop, Nat.reduceEqDiff, Nat.reduceAdd, Nat.reduceSub, Nat.reduceMul, Int.reduceNeg, Nat.reduceLT, Int.reduceToNat, Nat.reduceLeDiff, Nat.sub_zero])
          refine wrong_c h7 ?_
          (try simp (maxSteps := 1000000) (dsimp := false) (disch := (first | omega | (simp only [okR]; done) | (simp only [sizeR] <;> omega) | fail)) only [↓preR, postR, ↓w_stop, Nat.reduceEqDiff, Nat.reduceAdd, Nat.reduceSub, Nat.reduceMul, Int.reduceNeg, Nat.reduceLT, Int.reduceToNat, Nat.reduceLeDiff, Nat.sub_zero, he])
          refine hk1 _ _ _ hst X2 u undef _ at' 0 hle hat he ?_
          have h12 := ((h7.front 3 rfl).drop.front 3 rfl).drop
          exact h12
        clear hJ2
        (try simp (maxSteps := 1000000) (dsimp := false) (disch := (first | omega | (simp only [okR]; done) | (simp only [sizeR] <;> omega) | fail)) only [↓preR, postR, ↓w_stop, Nat.reduceEqDiff, Nat.reduceAdd, Nat.reduceSub, Nat.reduceMul, Int.reduceNeg, Nat.reduceLT, Int.reduceToNat, Nat.reduceLeDiff, Nat.sub_zero, h6.obj])
        refine loop_inv (fun nn xs s7 => ∃ j : Nat, xs = [.int .i64 j] ∧ j ≤ ws.length ∧ nn = ws.length - j ∧
          ((∃ (o' : List Tok) (i' : Nat), heres s o' i' (ws.drop j) = H ∧ o'.length = out.length ∧ i' ≤ s.length ∧ Hs s7 X2 (Cel p (rdC 0 0 s i' 0 [u, .slice wx ws.length wc]) :: E.Own (α := Tok) u o' :: E.Own (α := Wt) (.slice wx ws.length wc) ws :: Cel tp (tokC (Tok.mk 3 [10] i [] (some false)) false) :: Cel q [.string (bs (s.drop i))] :: R)) ∨
           (∃ (o' : List Tok) (i' b at' : Nat) (e : Int), H = (o', i', some (e, b)) ∧ ¬ e = 0 ∧ at' ≤ s.length ∧ Hs s7 X2 (Cel p (rdC e b s at' 0 [u, .slice wx ws.length wc]) :: E.Own (α := Tok) u o' :: E.Own (α := Wt) (.slice wx ws.length wc) ws :: Cel tp (tokC (Tok.mk 3 [10] i [] (some false)) false) :: Cel q [.string (bs (s.drop i))] :: R)))) _
          ⟨0, rfl, Nat.zero_le _, rfl, .inl ⟨out, i + 1, hH, rfl, by omega, h6⟩⟩ ?_
        rintro _ _ s7 again ⟨j, rfl, hj, rfl, hcase⟩ hag
        (try simp (maxSteps := 1000000) (dsimp := false) (disch := (first | omega | (simp only [okR]; done) | (simp only [sizeR] <;> omega) | fail)) only [↓preR, postR, ↓w_stop, Nat.reduceEqDiff, Nat.reduceAdd, Nat.reduceSub, Nat.reduceMul, Int.reduceNeg, Nat.reduceLT, Int.reduceToNat, Nat.reduceLeDiff, Nat.sub_zero])
        refine join_now ?_
        by_cases hlt : j < ws.length
        rotate_left
        · rcases hcase with ⟨o', i', hhe, hol, hi', h7⟩ | ⟨o', i', b, at', e, hHH, he, hat, h7⟩
          · rw [List.drop_of_length_le (by omega)] at hhe
            (try simp (maxSteps := 1000000) (dsimp := false) (disch := (first | omega | (simp only [okR]; done) | (simp only [sizeR] <;> omega) | fail)) only [↓preR, postR, ↓w_stop, Nat.reduceEqDiff, Nat.reduceAdd, Nat.reduceSub, Nat.reduceMul, Int.reduceNeg, Nat.reduceLT, Int.reduceToNat, Nat.reduceLeDiff, Nat.sub_zero])
            exact tail0 s7 o' i' hhe.symm hol hi' h7
          · (try simp (maxSteps := 1000000) (dsimp := false) (disch := (first | omega | (simp only [okR]; done) | (simp only [sizeR] <;> omega) | fail)) only [↓preR, postR, ↓w_stop, Nat.reduceEqDiff, Nat.reduceAdd, Nat.reduceSub, Nat.reduceMul, Int.reduceNeg, Nat.reduceLT, Int.reduceToNat, Nat.reduceLeDiff, Nat.sub_zero])
            exact tailE s7 o' i' b at' e hHH he hat h7
        (try simp (maxSteps := 1000000) (dsimp := false) (disch := (first | omega | (simp only [okR]; done) | (simp only [sizeR] <;> omega) | fail)) only [↓preR, postR, ↓w_stop, Nat.reduceEqDiff, Nat.reduceAdd, Nat.reduceSub, Nat.reduceMul, Int.reduceNeg, Nat.reduceLT, Int.reduceToNat, Nat.reduceLeDiff, Nat.sub_zero])
        refine join_by fun J5 hJ5 => ?_
        have next : ∀ s8, ((∃ (o' : List Tok) (i' : Nat), heres s o' i' (ws.drop (j + 1)) = H ∧ o'.length = out.length ∧ i' ≤ s.length ∧ Hs s8 X2 (Cel p (rdC 0 0 s i' 0 [u, .slice wx ws.length wc]) :: E.Own (α := Tok) u o' :: E.Own (α := Wt) (.slice wx ws.length wc) ws :: Cel tp (tokC (Tok.mk 3 [10] i [] (some false)) false) :: Cel q [.string (bs (s.drop i))] :: R)) ∨
           (∃ (o' : List Tok) (i' b at' : Nat) (e : Int), H = (o', i', some (e, b)) ∧ ¬ e = 0 ∧ at' ≤ s.length ∧ Hs s8 X2 (Cel p (rdC e b s at' 0 [u, .slice wx ws.length wc]) :: E.Own (α := Tok) u o' :: E.Own (α := Wt) (.slice wx ws.length wc) ws :: Cel tp (tokC (Tok.mk 3 [10] i [] (some false)) false) :: Cel q [.string (bs (s.drop i))] :: R))) → J5 [] s8 := by
          intro s8 hc
          refine hJ5 _ _ ?_
          (try simp (maxSteps := 1000000) (dsimp := false) (disch := (first | omega | (simp only [okR]; done) | (simp only [sizeR] <;> omega) | fail)) only [↓preR, postR, ↓w_stop, Nat.reduceEqDiff, Nat.reduceAdd, Nat.reduceSub, Nat.reduceMul, Int.reduceNeg, Nat.reduceLT, Int.reduceToNat, Nat.reduceLeDiff, Nat.sub_zero])
          exact hag _ _ _ ⟨j + 1, rfl, hlt, rfl, hc⟩ (by omega)
        clear hJ5
        rcases hcase with ⟨o', i', hhe, hol, hi', h7⟩ | ⟨o', i', b, at', e, hHH, he, hat, h7⟩
        · obtain ⟨wg, wc', ys, hg, f1, hm, hy, hWt⟩ := wt_at (h7.front 2 rfl) hlt
          injection f1 with f1 _ _
          subst f1
          rw [List.drop_eq_getElem_cons hlt, heres_c] at hhe
          (try simp (maxSteps := 1000000) (dsimp := false) (disch := (first | omega | (simp only [okR]; done) | (simp only [sizeR] <;> omega) | fail)) only [↓preR, postR, ↓w_stop, Nat.reduceEqDiff, Nat.reduceAdd, Nat.reduceSub, Nat.reduceMul, Int.reduceNeg, Nat.reduceLT, Int.reduceToNat, Nat.reduceLeDiff, Nat.sub_zero, hm, hy])
          refine wrong_c h7 ?_
          (try simp (maxSteps := 1000000) (dsimp := false) (disch := (first | omega | (simp only [okR]; done) | (simp only [sizeR] <;> omega) | fail)) only [↓preR, postR, ↓w_stop, Nat.reduceEqDiff, Nat.reduceAdd, Nat.reduceSub, Nat.reduceMul, Int.reduceNeg, Nat.reduceLT, Int.reduceToNat, Nat.reduceLeDiff, Nat.sub_zero])
          refine takes_c hWt (by rw [hol]; exact hI4 _ (List.getElem_mem hlt)) hs hi' h7 ?_
          cases hd : heredoc (s.length + 1) s i' ws[j].fin ws[j].tabs [] with
          | some bi =>
            obtain ⟨bd, i2⟩ := bi
            rw [hd] at hhe
            intro v s8 hi2 h8
            exact next s8 (.inl ⟨_, i2, hhe, by rw [setBody_len]; exact hol, hi2, h8⟩)
          | none =>
            rw [hd] at hhe
            intro v s8 at' hat h8
            exact next s8 (.inr ⟨o', i', _, at', 12, hhe.symm, by decide, hat, h8⟩)
        · obtain ⟨wg, wc', ys, hg, f1, hm, hy, hWt⟩ := wt_at (h7.front 2 rfl) hlt
          injection f1 with f1 _ _
          subst f1
          (try simp (maxSteps := 1000000) (dsimp := false) (disch := (first | omega | (simp only [okR]; done) | (simp only [sizeR] <;> omega) | fail)) only [↓preR, postR, ↓w_stop, Nat.reduceEqDiff, Nat.reduceAdd, Nat.reduceSub, Nat.reduceMul, Int.reduceNeg, Nat.reduceLT, Int.reduceToNat, Nat.reduceLeDiff, Nat.sub_zero, hm, hy])
          refine wrong_c h7 ?_
          (try simp (maxSteps := 1000000) (dsimp := false) (disch := (first | omega | (simp only [okR]; done) | (simp only [sizeR] <;> omega) | fail)) only [↓preR, postR, ↓w_stop, Nat.reduceEqDiff, Nat.reduceAdd, Nat.reduceSub, Nat.reduceMul, Int.reduceNeg, Nat.reduceLT, Int.reduceToNat, Nat.reduceLeDiff, Nat.sub_zero, he])
          exact next s7 (.inr ⟨o', i', b, at', e, hHH, he, hat, h7⟩)
  clear hJ1
  (try simp (maxSteps := 1000000) (dsimp := false) (disch := (first | omega | (simp only [okR]; done) | (simp only [sizeR] <;> omega) | fail)) only [↓preR, postR, ↓w_stop, Nat.reduceEqDiff, Nat.reduceAdd, Nat.reduceSub, Nat.reduceMul, Int.reduceNeg, Nat.reduceLT, Int.reduceToNat, Nat.reduceLeDiff, Nat.sub_zero])
  refine opers_c h1 fun X2 v22 s2 hle hr h2 => ?_
  (try simp (maxSteps := 1000000) (dsimp := false) (disch := (first | omega | (simp only [okR]; done) | (simp only [sizeR] <;> omega) | fail)) only [↓preR, postR, ↓w_stop, Nat.reduceEqDiff, Nat.reduceAdd, Nat.reduceSub, Nat.reduceMul, Int.reduceNeg, Nat.reduceLT, Int.reduceToNat, Nat.reduceLeDiff, Nat.sub_zero])
  refine opix_c (by rw [List.length_drop]; omega) h2 (fun hop s3 h3 => ?_) (fun n s3 hn hop h3 => ?_) hr
  · (try simp (maxSteps := 1000000) (dsimp := false) (disch := (first | omega | (simp only [okR]; done) | (simp only [sizeR] <;> omega) | fail)) only [↓preR, postR, ↓w_stop, Nat.reduceEqDiff, Nat.reduceAdd, Nat.reduceSub, Nat.reduceMul, Int.reduceNeg, Nat.reduceLT, Int.reduceToNat, Nat.reduceLeDiff, Nat.sub_zero])
    exact tail1 X2 s3 hle hop h3
  · have hn0 : (0 : Int) ≤ (n : Int) := by omega
    rw [hop] at hst
    simp only at hst
    have hol : ops16[n].length ≤ 3 ∧ 0 < ops16[n].length := by
      have : ∀ o, o ∈ ops16 → o.length ≤ 3 ∧ 0 < o.length := by decide
      exact this _ (List.getElem_mem hn)
    (try simp (maxSteps := 1000000) (dsimp := false) (disch := (first | omega | (simp only [okR]; done) | (simp only [sizeR] <;> omega) | fail)) only [↓preR, postR, ↓w_stop, Nat.reduceEqDiff, Nat.reduceAdd, Nat.reduceSub, Nat.reduceMul, Int.reduceNeg, Nat.reduceLT, Int.reduceToNat, Nat.reduceLeDiff, Nat.sub_zero, hn0])
    refine join_by fun J6 hJ6 => ?_
    have tail6 : ∀ (X3 : Ce) (s4 : AS) (tp : Nat), Ce.le X X3 → Hs s4 X3 (Cel tp (tokC (Tok.mk 2 ops16[n] i [] (some false)) false) :: Cel q [.string (bs (s.drop i))] :: LxL p 0 0 s i 0 u w ⟨out, ws, i⟩ R) → J6 [pv tp] s4 := by
      intro X3 s4 tp hle3 h4
      refine hJ6 _ _ ?_
      clear hJ6 tail1 h3 h1 h2
      have e4 := (h4.front 2 rfl).obj
      have h5 : Hs s4 X3 (Cel p (rdC 0 0 s i 0 [u, w]) :: Cel tp (tokC (Tok.mk 2 ops16[n] i [] (some false)) false) :: Cel q [.string (bs (s.drop i))] :: E.Own (α := Tok) u out :: E.Own (α := Wt) w ws :: R) := h4.front 2 rfl
      have h6 := h5.put (cs' := rdC 0 0 s ((i : Int) + (ops16[n].length : Int)) 0 [u, w])
      have h7 := h6.front 3 rfl
      obtain ⟨ux, uc, rfl, _⟩ := h7.own
      (try simp (maxSteps := 1000000) (dsimp := false) (disch := (first | omega | (simp only [okR]; done) | (simp only [sizeR] <;> omega) | fail)) only [↓preR, postR, ↓w_stop, Nat.reduceEqDiff, Nat.reduceAdd, Nat.reduceSub, Nat.reduceMul, Int.reduceNeg, Nat.reduceLT, Int.reduceToNat, Nat.reduceLeDiff, Nat.sub_zero, e4, h4.obj, h6.obj, h6.obj1])
      generalize AS.put _ _ _ = s5 at h7 ⊢
      clear h6 h5 h4 e4
      have hz := h7.new (cs := tokC (Tok.mk 2 ops16[n] i [] (some false)) false)
      have ez := (hz.front 2 rfl).obj
      have e7 := (h7.front 2 rfl).obj
      (try simp (maxSteps := 1000000) (dsimp := false) (disch := (first | omega | (simp only [okR]; done) | (simp only [sizeR] <;> omega) | fail)) only [↓preR, postR, ↓w_stop, Nat.reduceEqDiff, Nat.reduceAdd, Nat.reduceSub, Nat.reduceMul, Int.reduceNeg, Nat.reduceLT, Int.reduceToNat, Nat.reduceLeDiff, Nat.sub_zero, h7.obj1, e7, ez])
      refine push_by h7 (e := 28) (bytes := 56) (by kernel_rfl) (by kernel_rfl) (a := Tok.mk 2 ops16[n] i [] (some false)) ⟨false, rfl, fun x hx => by cases hx; rfl, by unfold inI64; show -9223372036854775808 ≤ (2 : Int) ∧ (2 : Int) ≤ 9223372036854775807; omega, by show i ≤ 1000000; omega, by show ops16[n].length ≤ 1000000; omega, by simp⟩ (by omega) (by unfold maxLen; omega) fun v' s6 h8 => ?_
      obtain ⟨vx, vc, rfl, _⟩ := h8.own
      have h9 := h8.swap.put (cs' := rdC 0 0 s ((i : Int) + (ops16[n].length : Int)) 0 [.slice vx (out ++ [(Tok.mk 2 ops16[n] i [] (some false))]).length vc, w])
      (try simp (maxSteps := 1000000) (dsimp := false) (disch := (first | omega | (simp only [okR]; done) | (simp only [sizeR] <;> omega) | fail)) only [↓preR, postR, ↓w_stop, Nat.reduceEqDiff, Nat.reduceAdd, Nat.reduceSub, Nat.reduceMul, Int.reduceNeg, Nat.reduceLT, Int.reduceToNat, Nat.reduceLeDiff, Nat.sub_zero, h8.obj1])
      have ei : ((i : Int) + (ops16[n].length : Int)) = ((i + ops16[n].length : Nat) : Int) := by omega
      rw [ei] at h9
      refine hk0 _ hst X3 (.slice vx (out ++ [(Tok.mk 2 ops16[n] i [] (some false))]).length vc) w undef _ hle3 ?_
      have h10 := (h9.front 2 rfl).drop
      have h11 := (h10.front 2 rfl).drop
      exact h11
    clear hJ6 tail1
    (try simp (maxSteps := 1000000) (dsimp := false) (disch := (first | omega | (simp only [okR]; done) | (simp only [sizeR] <;> omega) | fail)) only [↓preR, postR, ↓w_stop, Nat.reduceEqDiff, Nat.reduceAdd, Nat.reduceSub, Nat.reduceMul, Int.reduceNeg, Nat.reduceLT, Int.reduceToNat, Nat.reduceLeDiff, Nat.sub_zero, h3.obj1])
    refine alt_i ?_ ?_
    · refine opers_c h3 fun X3 v27 s4 hle3 hr3 h4 => ?_
      obtain ⟨a, b, o, cap, rfl, _, hm, hat⟩ := strs_at hr3
      obtain ⟨rfl, c0, _⟩ := hat n hn
      have g0 := h4.ldx c0
      have h5 := h4.new (cs := [.int .i64 0, .string (bs []), .int .i64 0, .string (bs []), .bool false])
      have e5 := (h5.front 2 rfl).obj
      have g5 : ldOb (s4.c b (o + n)) ((s4.new (.cells [.int .i64 0, .string (bs []), .int .i64 0, .string (bs []), .bool false])).m b) (o + n) = some (.string (bs ops16[n])) := h5.ldx c0
      have h6 : Hs _ X3 (Cel s4.n (tokC (Tok.mk 2 ops16[n] i [] (some false)) false) :: Cel q [.string (bs (s.drop i))] :: LxL p 0 0 s i 0 u w ⟨out, ws, i⟩ R) := h5.put
      have hn2 : (n : Int) < (ops16.length : Int) := by omega
      (try simp (maxSteps := 1000000) (dsimp := false) (disch := (first | omega | (simp only [okR]; done) | (simp only [sizeR] <;> omega) | fail)) only [↓preR, postR, ↓w_stop, Nat.reduceEqDiff, Nat.reduceAdd, Nat.reduceSub, Nat.reduceMul, Int.reduceNeg, Nat.reduceLT, Int.reduceToNat, Nat.reduceLeDiff, Nat.sub_zero, h4.obj1, g0, e5, g5])
      exact tail6 X3 _ _ (Ce.le_trans hle hle3) h6
    · have h5 := h3.new (cs := [.int .i64 0, .string (bs []), .int .i64 0, .string (bs []), .bool false])
      have e5 := (h5.front 2 rfl).obj
      (try simp (maxSteps := 1000000) (dsimp := false) (disch := (first | omega | (simp only [okR]; done) | (simp only [sizeR] <;> omega) | fail)) only [↓preR, postR, ↓w_stop, Nat.reduceEqDiff, Nat.reduceAdd, Nat.reduceSub, Nat.reduceMul, Int.reduceNeg, Nat.reduceLT, Int.reduceToNat, Nat.reduceLeDiff, Nat.sub_zero, h3.obj1, e5])
      generalize AS.new s3 _ = s4 at h5 e5 ⊢
      generalize s3.n = tp at h5 ⊢
      refine opers_c h5 fun X3 v27 s5 hle3 hr3 h6 => ?_
      obtain ⟨a, b, o, cap, rfl, _, hm, hat⟩ := strs_at hr3
      obtain ⟨rfl, c0, _⟩ := hat n hn
      have g0 := h6.ldx c0
      have e6 := (h6.front 2 rfl).obj
      have h7 : Hs _ X3 (Cel tp (tokC (Tok.mk 2 ops16[n] i [] (some false)) false) :: Cel q [.string (bs (s.drop i))] :: LxL p 0 0 s i 0 u w ⟨out, ws, i⟩ R) := h6.put
      (try simp (maxSteps := 1000000) (dsimp := false) (disch := (first | omega | (simp only [okR]; done) | (simp only [sizeR] <;> omega) | fail)) only [↓preR, postR, ↓w_stop, Nat.reduceEqDiff, Nat.reduceAdd, Nat.reduceSub, Nat.reduceMul, Int.reduceNeg, Nat.reduceLT, Int.reduceToNat, Nat.reduceLeDiff, Nat.sub_zero, e6, g0, h6.obj])
      exact tail6 X3 _ _ (Ce.le_trans hle hle3) h7
end
end Go.Proofs.YtgijohcmkipkhaaDoor
