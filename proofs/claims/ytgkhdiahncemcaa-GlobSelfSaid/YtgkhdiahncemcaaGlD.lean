/- Patterns: the tokens that the program makes of a text. Conditions: as each theorem says. -/
import Derived.Test.YtgkhdiahncemcaaGlC
import Derived.Test.YtgkhdiahncemcaaRng
namespace Go.Proofs.Ytgkhdiahncemcaa
open E Go.Lib
set_option linter.unusedVariables false
set_option linter.unusedSimpArgs false
set_option maxHeartbeats 1000000
set_option maxRecDepth 20000

section
variable {σ σ' : AS} {X : Ce} {R : List Ck} {k : Value → AS → Prop} {s : Str} {q : List Bool} {i e p l : Nat} {c : UInt8} {v vq : Value}
abbrev pt (p : Nat) : Value := .pointer (some ⟨p, 0, none⟩)
theorem iter_c {Y : List Tok → Ck} (hq : RepL X vq q) (hp0 : X p 0 = some (.string (bs s))) (hp1 : X p 1 = some vq) (hs : s.length ≤ 1000000) (h : Hs σ X (Y [] :: R))
    (hy : ∀ σ1 X1 R1 pre kd b nt rs u k1, Ce.le X X1 → Hs σ1 X1 (Y pre :: R1) → inI64 kd → RepL X1 u rs → pre.length < s.length →
      (∀ σ2 X2, Ce.le X1 X2 → Hs σ2 X2 (Y (pre ++ [(kd, b, nt, rs)]) :: R1) → k1 (.bool true) σ2) → kYld Try.prog l [.agg (tokC kd b.toNat nt u).toArray] σ1 k1)
    (hk : ∀ σ' X', Ce.le X X' → Hs σ' X' (Y (toks s q) :: R) → k undef σ') :
    kCall Try.prog 29 [.func (.yield l) #[] #[], pt p] σ k := by
  have hsm : s.length ≤ maxLen := by unfold maxLen; omega
  refine f29 ?_
  (try simp (maxSteps := 1000000) (dsimp := false) (disch := (first | omega | (simp only [okR]; done) | (simp only [sizeR] <;> omega) | fail)) only [↓preR, postR, ↓w_stop, Nat.reduceEqDiff, Nat.reduceAdd, Nat.reduceSub, Nat.reduceMul, Int.reduceNeg, Nat.reduceLT, Int.reduceToNat, Nat.reduceLeDiff, Nat.sub_zero, F29])
  refine loop_inv (fun nn xs s1 => ∃ (j : Nat) (pre : List Tok) (X1 : Ce), xs = [.int .i64 j] ∧ Ce.le X X1 ∧ pre ++ toksA s q j = toks s q ∧ j ≤ s.length ∧ Hs s1 X1 (Y pre :: R) ∧ nn = s.length - j) _ ⟨0, [], X, rfl, Ce.le_refl _, rfl, Nat.zero_le _, h, rfl⟩ ?_
  clear h
  rintro _ _ s1 again ⟨j, pre, X1, rfl, hx, hpre, hj, h1, rfl⟩ hag
  have g0 := h1.ldx (hx _ _ _ hp0)
  have g1 := h1.ldx (hx _ _ _ hp1)
  by_cases hlt : j < s.length
  · rw [toksA_eq, if_pos hlt] at hpre
    have hpl : pre.length < s.length := by
      have a1 := congrArg List.length hpre
      have a2 := toksA_len (s := s) (q := q) (i := 0)
      have a3 : (toks s q).length ≤ s.length := by unfold toks; omega
      simp only [List.length_append, List.length_cons] at a1
      omega
    (try simp (maxSteps := 1000000) (dsimp := false) (disch := (first | omega | (simp only [okR]; done) | (simp only [sizeR] <;> omega) | fail)) only [↓preR, postR, ↓w_stop, Nat.reduceEqDiff, Nat.reduceAdd, Nat.reduceSub, Nat.reduceMul, Int.reduceNeg, Nat.reduceLT, Int.reduceToNat, Nat.reduceLeDiff, Nat.sub_zero, g0])
    refine join_now ?_
    have h2 := (h1.new (cs := tokC 0 0 false (.slice none 0 0))).put (cs' := tokC 1 (byt s j).toNat false (.slice none 0 0))
    (try simp (maxSteps := 1000000) (dsimp := false) (disch := (first | omega | (simp only [okR]; done) | (simp only [sizeR] <;> omega) | fail)) only [↓preR, postR, ↓w_stop, Nat.reduceEqDiff, Nat.reduceAdd, Nat.reduceSub, Nat.reduceMul, Int.reduceNeg, Nat.reduceLT, Int.reduceToNat, Nat.reduceLeDiff, Nat.sub_zero, g0, byt_of hlt])
    generalize s1.n = pt at h2 ⊢
    generalize AS.put _ pt _ = s2 at h2 ⊢
    have hq1 : RepL X1 vq q := hq.mono hx
    clear g0 g1
    refine join_by fun J hJ => ?_
    have tail : ∀ s3 X3 kd (b : UInt8) nt rs u, Ce.le X1 X3 → Hs s3 X3 (Cel pt (tokC kd b.toNat nt u) :: Y pre :: R) → inI64 kd → RepL X3 u rs → (kd, b, nt, rs) = (tokAt s q j).1 → J [.int .i64 ((tokAt s q j).2 : Nat)] s3 := by
      intro s3 X3 kd b nt rs u hx3 h3 hkd hu ht
      refine hJ _ _ ?_
      (simp (maxSteps := 1000000) (dsimp := false) (disch := (first | omega | (simp only [okR]; done) | (simp only [sizeR] <;> omega) | fail)) only [↓preR, postR, ↓w_join, Nat.reduceEqDiff, Nat.reduceAdd, Nat.reduceSub, Nat.reduceMul, Int.reduceNeg, Nat.reduceLT, Int.reduceToNat, Nat.reduceLeDiff, Nat.sub_zero, h3.obj])
      refine yld_by (hy _ _ _ _ _ _ _ _ _ _ (Ce.le_trans hx hx3) h3.swap hkd hu hpl fun s4 X4 hx4 h4 => ?_)
      (simp (maxSteps := 1000000) (dsimp := false) (disch := (first | omega | (simp only [okR]; done) | (simp only [sizeR] <;> omega) | fail)) only [↓preR, postR, ↓w_join, Nat.reduceEqDiff, Nat.reduceAdd, Nat.reduceSub, Nat.reduceMul, Int.reduceNeg, Nat.reduceLT, Int.reduceToNat, Nat.reduceLeDiff, Nat.sub_zero])
      have hgt := tokAt_gt (s := s) (q := q) (i := j)
      refine hag _ _ _ ⟨(tokAt s q j).2, pre ++ [(kd, b, nt, rs)], X4, rfl, Ce.le_trans hx (Ce.le_trans hx3 hx4), by rw [← hpre, ht]; simp, tokAt_le hlt, h4.swap.drop, rfl⟩ (by omega)
    clear hJ
    have h2' := h2
    have g0 := h2.ldx (hx _ _ _ hp0)
    have g1 := h2.ldx (hx _ _ _ hp1)
    (simp (maxSteps := 1000000) (dsimp := false) (disch := (first | omega | (simp only [okR]; done) | (simp only [sizeR] <;> omega) | fail)) only [↓preR, postR, ↓w_join, Nat.reduceEqDiff, Nat.reduceAdd, Nat.reduceSub, Nat.reduceMul, Int.reduceNeg, Nat.reduceLT, Int.reduceToNat, Nat.reduceLeDiff, Nat.sub_zero, g0, g1])
    refine plain_c (i := j) (c := 63) rfl rfl hq1 hsm h2 fun s3 h3 => ?_
    cases hp1' : isP s q j 63 with
    | true =>
      have e : tokAt s q j = ((2, 0, false, []), j + 1) := by unfold tokAt; rw [if_pos hp1']
      have h4 := h3.put (cs' := tokC 2 0 false (.slice none 0 0))
      rw [e] at tail
      (simp (maxSteps := 1000000) (dsimp := false) (disch := (first | omega | (simp only [okR]; done) | (simp only [sizeR] <;> omega) | fail)) only [↓preR, postR, ↓w_join, Nat.reduceEqDiff, Nat.reduceAdd, Nat.reduceSub, Nat.reduceMul, Int.reduceNeg, Nat.reduceLT, Int.reduceToNat, Nat.reduceLeDiff, Nat.sub_zero, h3.obj])
      exact tail _ _ 2 0 false [] _ (Ce.le_refl _) h4 (by unfold inI64; omega) ⟨none, 0, rfl, Nat.le_refl _, Nat.zero_le _, .inl rfl⟩ rfl
    | false =>
      have g0 := h3.ldx (hx _ _ _ hp0)
      have g1 := h3.ldx (hx _ _ _ hp1)
      (simp (maxSteps := 1000000) (dsimp := false) (disch := (first | omega | (simp only [okR]; done) | (simp only [sizeR] <;> omega) | fail)) only [↓preR, postR, ↓w_join, Nat.reduceEqDiff, Nat.reduceAdd, Nat.reduceSub, Nat.reduceMul, Int.reduceNeg, Nat.reduceLT, Int.reduceToNat, Nat.reduceLeDiff, Nat.sub_zero, g0, g1])
      refine plain_c (i := j) (c := 42) rfl rfl hq1 hsm h3 fun s4 h4 => ?_
      cases hp2 : isP s q j 42 with
      | true =>
        have e : tokAt s q j = ((3, 0, false, []), j + 1) := by unfold tokAt; rw [hp1', if_neg (by simp), if_pos hp2]
        have h5 := h4.put (cs' := tokC 3 0 false (.slice none 0 0))
        rw [e] at tail
        (simp (maxSteps := 1000000) (dsimp := false) (disch := (first | omega | (simp only [okR]; done) | (simp only [sizeR] <;> omega) | fail)) only [↓preR, postR, ↓w_join, Nat.reduceEqDiff, Nat.reduceAdd, Nat.reduceSub, Nat.reduceMul, Int.reduceNeg, Nat.reduceLT, Int.reduceToNat, Nat.reduceLeDiff, Nat.sub_zero, h4.obj])
        exact tail _ _ 3 0 false [] _ (Ce.le_refl _) h5 (by unfold inI64; omega) ⟨none, 0, rfl, Nat.le_refl _, Nat.zero_le _, .inl rfl⟩ rfl
      | false =>
        have g0 := h4.ldx (hx _ _ _ hp0)
        have g1 := h4.ldx (hx _ _ _ hp1)
        (simp (maxSteps := 1000000) (dsimp := false) (disch := (first | omega | (simp only [okR]; done) | (simp only [sizeR] <;> omega) | fail)) only [↓preR, postR, ↓w_join, Nat.reduceEqDiff, Nat.reduceAdd, Nat.reduceSub, Nat.reduceMul, Int.reduceNeg, Nat.reduceLT, Int.reduceToNat, Nat.reduceLeDiff, Nat.sub_zero, g0, g1])
        refine plain_c (i := j) (c := 91) rfl rfl hq1 hsm h4 fun s5 h5 => ?_
        have byte : ¬ (isP s q j 91 = true ∧ clsE s q j < s.length) → ∀ s6, Hs s6 X1 (Cel pt (tokC 1 (byt s j).toNat false (.slice none 0 0)) :: Y pre :: R) → J [.int .i64 (j + 1 : Nat)] s6 := by
          intro hn s6 h6
          have e : tokAt s q j = ((1, byt s j, false, []), j + 1) := by unfold tokAt; rw [hp1', hp2, if_neg (by simp), if_neg (by simp), if_neg hn]
          rw [e] at tail
          exact tail _ _ 1 (byt s j) false [] _ (Ce.le_refl _) h6 (by unfold inI64; omega) ⟨none, 0, rfl, Nat.le_refl _, Nat.zero_le _, .inl rfl⟩ rfl
        cases hp3 : isP s q j 91 with
        | true =>
          have g0 := h5.ldx (hx _ _ _ hp0)
          have g1 := h5.ldx (hx _ _ _ hp1)
          (simp (maxSteps := 1000000) (dsimp := false) (disch := (first | omega | (simp only [okR]; done) | (simp only [sizeR] <;> omega) | fail)) only [↓preR, postR, ↓w_join, Nat.reduceEqDiff, Nat.reduceAdd, Nat.reduceSub, Nat.reduceMul, Int.reduceNeg, Nat.reduceLT, Int.reduceToNat, Nat.reduceLeDiff, Nat.sub_zero, g0, g1])
          refine class_c hq1 hs hlt h5 (fun hc s6 h6 => ?_) (fun hc X6 u s6 hx6 hu h6 => ?_)
          · have h7 := (h6.new (cs := tokC 0 0 false (.slice none 0 0))).put (cs' := tokC 0 0 false (.slice none 0 0))
            (simp (maxSteps := 1000000) (dsimp := false) (disch := (first | omega | (simp only [okR]; done) | (simp only [sizeR] <;> omega) | fail)) only [↓preR, postR, ↓w_join, Nat.reduceEqDiff, Nat.reduceAdd, Nat.reduceSub, Nat.reduceMul, Int.reduceNeg, Nat.reduceLT, Int.reduceToNat, Nat.reduceLeDiff, Nat.sub_zero])
            exact byte (fun h => hc h.2) _ h7.drop
          · obtain ⟨a, cap, hu', _⟩ := hu.val
            have h7 := (h6.new (cs := tokC 0 0 false (.slice none 0 0))).put (cs' := tokC 4 0 (isP s q (j + 1) 33) u)
            have h8 := h7.put1 (cs' := tokC 4 0 (isP s q (j + 1) 33) u)
            have e : tokAt s q j = ((4, 0, isP s q (j + 1) 33, rgs s q (clsE s q j) (first s q j)), clsE s q j + 1) := by unfold tokAt; rw [hp1', hp2, if_neg (by simp), if_neg (by simp), if_pos ⟨hp3, hc⟩]
            rw [e] at tail
            subst hu'
            have hpt : pt < s6.n := h6.lt
            (simp (maxSteps := 1000000) (dsimp := false) (disch := (first | omega | (simp only [okR]; done) | (simp only [sizeR] <;> omega) | fail)) only [↓preR, postR, ↓w_join, Nat.reduceEqDiff, Nat.reduceAdd, Nat.reduceSub, Nat.reduceMul, Int.reduceNeg, Nat.reduceLT, Int.reduceToNat, Nat.reduceLeDiff, Nat.sub_zero, h6.obj, h7.obj])
            exact tail _ _ 4 0 _ _ _ hx6 h8.drop (by unfold inI64; omega) hu rfl
        | false =>
          (simp (maxSteps := 1000000) (dsimp := false) (disch := (first | omega | (simp only [okR]; done) | (simp only [sizeR] <;> omega) | fail)) only [↓preR, postR, ↓w_join, Nat.reduceEqDiff, Nat.reduceAdd, Nat.reduceSub, Nat.reduceMul, Int.reduceNeg, Nat.reduceLT, Int.reduceToNat, Nat.reduceLeDiff, Nat.sub_zero])
          exact byte (by rw [hp3]; simp) s5 h5
  · rw [toksA_eq, if_neg hlt, List.append_nil] at hpre
    subst hpre
    (simp (maxSteps := 1000000) (dsimp := false) (disch := (first | omega | (simp only [okR]; done) | (simp only [sizeR] <;> omega) | fail)) only [↓preR, postR, ↓w_join, Nat.reduceEqDiff, Nat.reduceAdd, Nat.reduceSub, Nat.reduceMul, Int.reduceNeg, Nat.reduceLT, Int.reduceToNat, Nat.reduceLeDiff, Nat.sub_zero, g0])
    exact hk _ _ hx h1
theorem tokens_c (h : Hs σ X R) (hv : okCell vq = true) (hk : ∀ X' p σ', Ce.le X X' → X' p 0 = some (.string (bs s)) → X' p 1 = some vq → Hs σ' X' R → k (.func (.func 29) #[] #[pt p]) σ') :
    kCall Try.prog 23 [.agg [.string (bs s), vq].toArray] σ k := by
  refine f23 ?_
  have h1 := h.new (cs := [.string (bs s), vq])
  (try simp (maxSteps := 1000000) (dsimp := false) (disch := (first | omega | (simp only [okR]; done) | (simp only [sizeR] <;> omega) | fail)) only [↓preR, postR, ↓w_join, Nat.reduceEqDiff, Nat.reduceAdd, Nat.reduceSub, Nat.reduceMul, Int.reduceNeg, Nat.reduceLT, Int.reduceToNat, Nat.reduceLeDiff, Nat.sub_zero, F23])
  obtain ⟨X', hx, hc, h2⟩ := h1.freeze
  exact hk X' _ _ hx (hc 0 _ rfl) (hc 1 _ rfl) h2
/-- What Parse keeps while it goes through the tokens: the loop's record and block, where the list stands, the list. -/
def PY (o : Go.Obj) (D po : Nat) (pre : List Tok) : Ck := Exs (fun v : Value => True) fun v => [Oth (D + 1) o, Oth D (.deferred (some [])), Cel po [v], E.Own v pre]
theorem parse_c (hq : RepL X vq q) (hs : s.length ≤ 1000000) (h : Hs σ X R) (hk : ∀ X' v σ', Ce.le X X' → RepL X' v (toks s q) → Hs σ' X' R → k v σ') :
    kCall Try.prog 11 [.string (bs s), vq] σ k := by
  obtain ⟨a, cap, hvq, _⟩ := hq.val
  refine f11 ?_
  subst hvq
  have h1 := h.new (cs := [.slice none 0 0])
  (try simp (maxSteps := 1000000) (dsimp := false) (disch := (first | omega | (simp only [okR]; done) | (simp only [sizeR] <;> omega) | fail)) only [↓preR, postR, ↓w_stop, Nat.reduceEqDiff, Nat.reduceAdd, Nat.reduceSub, Nat.reduceMul, Int.reduceNeg, Nat.reduceLT, Int.reduceToNat, Nat.reduceLeDiff, Nat.sub_zero, F11])
  generalize σ.n = po at h1 ⊢
  generalize AS.new σ _ = s1 at h1 ⊢
  refine join_by fun J hJ => ?_
  have tail : ∀ s2 X2 D v, Ce.le X X2 → Hs s2 X2 (Oth D (.deferred (some [])) :: Cel po [v] :: E.Own v (toks s q) :: R) → J [consM (.int .i64 (D : Nat)) undef] s2 := by
    intro s2 X2 D v hx2 h2
    refine hJ _ _ ?_
    (simp (maxSteps := 1000000) (dsimp := false) (disch := (first | omega | (simp only [okR]; done) | (simp only [sizeR] <;> omega) | fail)) only [↓preR, postR, ↓w_join, Nat.reduceEqDiff, Nat.reduceAdd, Nat.reduceSub, Nat.reduceMul, Int.reduceNeg, Nat.reduceLT, Int.reduceToNat, Nat.reduceLeDiff, Nat.sub_zero, h2.obj1])
    refine fin1 h2.oth ?_
    have h3 := (h2.putX (o' := .deferred none)).drop.drop
    obtain ⟨X', hx, hr, h4⟩ := h3.keep
    exact hk _ _ _ (Ce.le_trans hx2 hx) hr h4
  clear hJ
  (simp (maxSteps := 1000000) (dsimp := false) (disch := (first | omega | (simp only [okR]; done) | (simp only [sizeR] <;> omega) | fail)) only [↓preR, postR, ↓w_join, Nat.reduceEqDiff, Nat.reduceAdd, Nat.reduceSub, Nat.reduceMul, Int.reduceNeg, Nat.reduceLT, Int.reduceToNat, Nat.reduceLeDiff, Nat.sub_zero])
  refine tokens_c h1 rfl fun X2 p s2 hx2 hp0 hp1 h2 => ?_
  refine rngf_by (a := []) (b := [pt p]) (by kernel_rfl) fun o o' hY => ?_
  have h3 := ((h2.own0 (α := Tok)).swap.newX (o := .deferred (some []))).newX (o := o)
  have hn : (s2.new (.other (.deferred (some [])))).n = s2.n + 1 := rfl
  rw [hn] at h3
  have h4 : Hs _ X2 (PY o s2.n po [] :: R) := Hs.closed (p := fun v : Value => True) (.slice none 0 0) trivial h3
  refine iter_c (Y := PY o s2.n po) (hq.mono hx2) hp0 hp1 hs h4 ?_ ?_
  · intro σ1 X1 R1 pre kd b nt rs u k1 hx1 g1 hkd hu hpl hk1
    obtain ⟨v, _, g2⟩ := g1.opened
    obtain ⟨ua, uc, hu', _⟩ := hu.val
    subst hu'
    refine hY _ _ _ g2.oth ⟨rfl, ?_⟩
    have g3 := (g2.new (cs := tokC 0 0 false (.slice none 0 0))).put (cs' := tokC kd b.toNat nt (.slice ua rs.length uc))
    (simp (maxSteps := 1000000) (dsimp := false) (disch := (first | omega | (simp only [okR]; done) | (simp only [sizeR] <;> omega) | fail)) only [↓preR, postR, ↓w_join, Nat.reduceEqDiff, Nat.reduceAdd, Nat.reduceSub, Nat.reduceMul, Int.reduceNeg, Nat.reduceLT, Int.reduceToNat, Nat.reduceLeDiff, Nat.sub_zero])
    generalize σ1.n = pw at g3 ⊢
    generalize AS.put _ pw _ = s4 at g3 ⊢
    refine ⟨g3.drop.oth, ?_⟩
    have g4 : Hs _ X1 (E.Own v pre :: Oth (s2.n + 1) o' :: Cel pw (tokC kd b.toNat nt (.slice ua rs.length uc)) :: Oth s2.n (.deferred (some [])) :: Cel po [v] :: R1) := (g3.front 1 rfl).putX (o' := o') |>.front 4 rfl
    obtain ⟨vx, vc, hv, _⟩ := g4.own
    have e1 := (g4.front 4 rfl).obj
    have e2 := (g4.front 2 rfl).obj
    (simp (maxSteps := 1000000) (dsimp := false) (disch := (first | omega | (simp only [okR]; done) | (simp only [sizeR] <;> omega) | fail)) only [↓preR, postR, ↓w_join, Nat.reduceEqDiff, Nat.reduceAdd, Nat.reduceSub, Nat.reduceMul, Int.reduceNeg, Nat.reduceLT, Int.reduceToNat, Nat.reduceLeDiff, Nat.sub_zero, e1, e2])
    refine push_by g4 (e := 47) (bytes := 40) (by kernel_rfl) (by kernel_rfl) (tok_rp (t := (kd, b, nt, rs)) hkd hu) (by omega) (by unfold maxLen; omega) fun v' s5 g5 => ?_
    obtain ⟨vx', vc', hv', _⟩ := g5.own
    subst hv'
    have e3 := (g5.front 4 rfl).obj
    (simp (maxSteps := 1000000) (dsimp := false) (disch := (first | omega | (simp only [okR]; done) | (simp only [sizeR] <;> omega) | fail)) only [↓preR, postR, ↓w_join, Nat.reduceEqDiff, Nat.reduceAdd, Nat.reduceSub, Nat.reduceMul, Int.reduceNeg, Nat.reduceLT, Int.reduceToNat, Nat.reduceLeDiff, Nat.sub_zero, e3])
    have g6 : Hs _ X1 (Cel po [.slice vx' (pre ++ [(kd, b, nt, rs)]).length vc'] :: E.Own (.slice vx' (pre ++ [(kd, b, nt, rs)]).length vc') (pre ++ [(kd, b, nt, rs)]) :: Oth (s2.n + 1) o' :: Cel pw (tokC kd b.toNat nt (.slice ua rs.length uc)) :: Oth s2.n (.deferred (some [])) :: R1) := (g5.front 4 rfl).put
    have g7 : Hs _ X1 (Oth (s2.n + 1) o' :: Cel po [.slice vx' (pre ++ [(kd, b, nt, rs)]).length vc'] :: E.Own (.slice vx' (pre ++ [(kd, b, nt, rs)]).length vc') (pre ++ [(kd, b, nt, rs)]) :: Cel pw (tokC kd b.toNat nt (.slice ua rs.length uc)) :: Oth s2.n (.deferred (some [])) :: R1) := g6.front 2 rfl
    refine ⟨g7.oth, hk1 _ X1 (Ce.le_refl _) ?_⟩
    have g8 : Hs _ X1 (Oth (s2.n + 1) o :: Cel po [_] :: E.Own _ (pre ++ [(kd, b, nt, rs)]) :: Oth s2.n (.deferred (some [])) :: R1) := ((g7.putX (o' := o)).front 3 rfl).drop
    have g9 : Hs _ X1 (Oth (s2.n + 1) o :: Oth s2.n (.deferred (some [])) :: Cel po [_] :: E.Own _ (pre ++ [(kd, b, nt, rs)]) :: R1) := (g8.front 3 rfl).front 1 rfl
    exact Hs.closed (p := fun v : Value => True) _ trivial g9
  · intro σ1 X1 hx1 g1
    obtain ⟨v, _, g2⟩ := g1.opened
    refine ⟨g2.oth, fun o2 => ?_⟩
    exact tail _ _ _ v (Ce.le_trans hx2 hx1) g2.putX.drop
end
end Go.Proofs.Ytgkhdiahncemcaa
