/- Variables in order: All. Conditions: as each theorem says. -/
import Derived.Test.YtkpnackmijjciaaGreatDoorVaL
namespace Go.Proofs.YtkpnackmijjciaaGreatDoor
open E Go.Lib
set_option linter.unusedVariables false
set_option linter.unusedSimpArgs false
set_option maxHeartbeats 1000000
set_option maxRecDepth 20000

/-- What the collecting keeps while it goes: the loop's record and block, where the row stands, the row. -/
def PV (o : Go.Obj) (D po : Nat) (pre : List FV) : Ck := Exs (fun v : Value => True) fun v => [Oth (D + 1) o, Oth D (.deferred (some [])), Cel po [v], E.Own v pre]
section
variable {σ σ' : AS} {X : Ce} {R : List Ck} {k : Value → AS → Prop} {v m m1 : Nat} {av : Value} {zero : Str} {ar : List Str} {st : Int} {l : VL}
theorem appendseq_c (hok : VlOk l) (hl : l.length ≤ 1000000) (h : Hs σ X (Cel m1 [.map (some m)] :: Mp (κ := Str) m none (encL l) :: R))
    (hk : ∀ u σ' d, d.Perm (l.map (·.1)) → Hs σ' X (VarR u (listV l d) :: Cel m1 [.map (some m)] :: Mp (κ := Str) m none (encL l) :: R) → k u σ') :
    kCall Tryz.prog 80 [.slice none 0 0, .func (.func 67) #[] #[.pointer (some ⟨m1, 0, none⟩)]] σ k := by
  refine f80 ?_
  have h1 := h.new (cs := [.slice none 0 0])
  (try simp (maxSteps := 1000000) (dsimp := false) (disch := (first | omega | (simp only [okR]; done) | (simp only [sizeR] <;> omega) | fail)) only [↓preR, postR, ↓w_stop, Nat.reduceEqDiff, Nat.reduceAdd, Nat.reduceSub, Nat.reduceMul, Int.reduceNeg, Nat.reduceLT, Int.reduceToNat, Nat.reduceLeDiff, Nat.sub_zero, F80])
  generalize σ.n = po at h1 ⊢
  generalize AS.new σ _ = s1 at h1 ⊢
  refine join_by fun J hJ => ?_
  have tail : ∀ s2 D u d, d.Perm (l.map (·.1)) → Hs s2 X (Oth D (.deferred (some [])) :: Cel po [u] :: E.Own u (listV l d) :: Cel m1 [.map (some m)] :: Mp (κ := Str) m none (encL l) :: R) → J [consM (.int .i64 (D : Nat)) undef] s2 := by
    intro s2 D u d hd h2
    refine hJ _ _ ?_
    (simp (maxSteps := 1000000) (dsimp := false) (disch := (first | omega | (simp only [okR]; done) | (simp only [sizeR] <;> omega) | fail)) only [↓preR, postR, ↓w_join, Nat.reduceEqDiff, Nat.reduceAdd, Nat.reduceSub, Nat.reduceMul, Int.reduceNeg, Nat.reduceLT, Int.reduceToNat, Nat.reduceLeDiff, Nat.sub_zero, h2.obj1])
    refine fin1 h2.oth ?_
    have h3 := (h2.putX (o' := .deferred none)).drop.drop
    exact hk _ _ d hd (VarR.own h3)
  clear hJ
  refine rngf_by (a := []) (b := [.pointer (some ⟨m1, 0, none⟩)]) (by kernel_rfl) fun o o' hY => ?_
  have h2 : Hs s1 X (Cel m1 [.map (some m)] :: Mp (κ := Str) m none (encL l) :: Cel po [.slice none 0 0] :: R) := h1.un2
  have h3 := (((h1.own0 (α := FV)).swap).newX (o := .deferred (some []))).newX (o := o)
  have hn : (s1.new (.other (.deferred (some [])))).n = s1.n + 1 := rfl
  rw [hn] at h3
  have h4 : Hs _ X (PV o s1.n po [] :: Cel m1 [.map (some m)] :: Mp (κ := Str) m none (encL l) :: R) := Hs.closed (p := fun v : Value => True) (.slice none 0 0) trivial h3
  refine iterV_c (Y := PV o s1.n po) hok h4 ?_ ?_
  · intro σ1 R1 pre p k1 g1 hp hpl hk1
    obtain ⟨u, _, g2⟩ := g1.opened
    refine hY _ _ _ g2.oth ⟨rfl, ?_⟩
    have g3 := (g2.new (cs := celF ([], [], false, false, false))).put (cs' := celF p)
    (simp (maxSteps := 1000000) (dsimp := false) (disch := (first | omega | (simp only [okR]; done) | (simp only [sizeR] <;> omega) | fail)) only [↓preR, postR, ↓w_join, Nat.reduceEqDiff, Nat.reduceAdd, Nat.reduceSub, Nat.reduceMul, Int.reduceNeg, Nat.reduceLT, Int.reduceToNat, Nat.reduceLeDiff, Nat.sub_zero])
    generalize σ1.n = pw at g3 ⊢
    generalize AS.put _ pw _ = s4 at g3 ⊢
    refine ⟨g3.drop.oth, ?_⟩
    have g4 : Hs _ X (E.Own u pre :: Oth (s1.n + 1) o' :: Cel pw (celF p) :: Oth s1.n (.deferred (some [])) :: Cel po [u] :: R1) := (g3.front 1 rfl).putX (o' := o') |>.front 4 rfl
    obtain ⟨vx, vc, hv, _⟩ := g4.own
    have e1 := (g4.front 4 rfl).obj
    have e2 := (g4.front 2 rfl).obj
    (simp (maxSteps := 1000000) (dsimp := false) (disch := (first | omega | (simp only [okR]; done) | (simp only [sizeR] <;> omega) | fail)) only [↓preR, postR, ↓w_join, Nat.reduceEqDiff, Nat.reduceAdd, Nat.reduceSub, Nat.reduceMul, Int.reduceNeg, Nat.reduceLT, Int.reduceToNat, Nat.reduceLeDiff, Nat.sub_zero, e1, e2])
    refine push_by g4 (e := 70) (bytes := 40) (by kernel_rfl) (by kernel_rfl) (rp_fv hp) (by omega) (by unfold maxLen; omega) fun v' s5 g5 => ?_
    obtain ⟨vx', vc', hv', _⟩ := g5.own
    subst hv'
    have e3 := (g5.front 4 rfl).obj
    (simp (maxSteps := 1000000) (dsimp := false) (disch := (first | omega | (simp only [okR]; done) | (simp only [sizeR] <;> omega) | fail)) only [↓preR, postR, ↓w_join, Nat.reduceEqDiff, Nat.reduceAdd, Nat.reduceSub, Nat.reduceMul, Int.reduceNeg, Nat.reduceLT, Int.reduceToNat, Nat.reduceLeDiff, Nat.sub_zero, e3])
    have g6 : Hs _ X (Cel po [.slice vx' (pre ++ [p]).length vc'] :: E.Own (.slice vx' (pre ++ [p]).length vc') (pre ++ [p]) :: Oth (s1.n + 1) o' :: Cel pw (celF p) :: Oth s1.n (.deferred (some [])) :: R1) := (g5.front 4 rfl).put
    have g7 : Hs _ X (Oth (s1.n + 1) o' :: Cel po [.slice vx' (pre ++ [p]).length vc'] :: E.Own (.slice vx' (pre ++ [p]).length vc') (pre ++ [p]) :: Cel pw (celF p) :: Oth s1.n (.deferred (some [])) :: R1) := g6.front 2 rfl
    refine ⟨g7.oth, hk1 _ ?_⟩
    have g8 : Hs _ X (Oth (s1.n + 1) o :: Cel po [_] :: E.Own _ (pre ++ [p]) :: Oth s1.n (.deferred (some [])) :: R1) := ((g7.putX (o' := o)).front 3 rfl).drop
    have g9 : Hs _ X (Oth (s1.n + 1) o :: Oth s1.n (.deferred (some [])) :: Cel po [_] :: E.Own _ (pre ++ [p]) :: R1) := (g8.front 3 rfl).front 1 rfl
    exact Hs.closed (p := fun v : Value => True) _ trivial g9
  · intro σ1 d hd g1
    obtain ⟨u, _, g2⟩ := g1.opened
    refine ⟨g2.oth, fun o2 => ?_⟩
    exact tail _ _ u d hd g2.putX.drop
theorem sortS_perm {d e : List Str} (h : d.Perm e) : sortS d = sortS e := by
  have tr : ∀ (a b c : Str), (!ltOf cfS b a) = true → (!ltOf cfS c b) = true → (!ltOf cfS c a) = true := by
    intro a b c h1 h2
    simp only [Bool.not_eq_true'] at *
    exact swoS.ntrans _ _ _ h2 h1
  have to : ∀ (a b : Str), ((!ltOf cfS b a) || (!ltOf cfS a b)) = true := by
    intro a b
    cases h1 : ltOf cfS b a with
    | false => rfl
    | true =>
      cases h2 : ltOf cfS a b with
      | false => rfl
      | true => have := swoS.trans _ _ _ h1 h2; rw [swoS.irrefl] at this; cases this
  refine List.Perm.eq_of_pairwise (le := fun x y => (!ltOf cfS y x) = true) ?_ (List.pairwise_mergeSort tr to _) (List.pairwise_mergeSort tr to _) ((List.mergeSort_perm _ _).trans (h.trans (List.mergeSort_perm _ _).symm))
  intro a b _ _ h1 h2
  simp only [Bool.not_eq_true'] at h1 h2
  exact totS _ _ h2 h1
/-- What All hands back. -/
def allV (l : VL) : List FV := listV l (sortS (l.map (·.1)))
theorem all_c {S : VM} (hok : VlOk S.l) (hl : S.l.length ≤ 1000000) (h : Hs σ X (Vm v zero S :: R)) (hk : ∀ u σ', Hs σ' X (VarR u (allV S.l) :: Vm v zero S :: R) → k u σ') :
    kCall Tryz.prog 16 [pv v] σ k := by
  obtain ⟨av, m, h1⟩ := Vs.open h
  refine f16 ?_
  (simp (maxSteps := 1000000) (dsimp := false) (disch := (first | omega | (simp only [okR]; done) | (simp only [sizeR] <;> omega) | fail)) only [↓preR, postR, ↓w_join, Nat.reduceEqDiff, Nat.reduceAdd, Nat.reduceSub, Nat.reduceMul, Int.reduceNeg, Nat.reduceLT, Int.reduceToNat, Nat.reduceLeDiff, Nat.sub_zero, F16, h1.obj])
  refine f48 ?_
  have h2 := h1.new (cs := [.map (some m)])
  (simp (maxSteps := 1000000) (dsimp := false) (disch := (first | omega | (simp only [okR]; done) | (simp only [sizeR] <;> omega) | fail)) only [↓preR, postR, ↓w_join, Nat.reduceEqDiff, Nat.reduceAdd, Nat.reduceSub, Nat.reduceMul, Int.reduceNeg, Nat.reduceLT, Int.reduceToNat, Nat.reduceLeDiff, Nat.sub_zero, F48])
  refine f47 ?_
  (try simp (maxSteps := 1000000) (dsimp := false) (disch := (first | omega | (simp only [okR]; done) | (simp only [sizeR] <;> omega) | fail)) only [↓preR, postR, ↓w_join, Nat.reduceEqDiff, Nat.reduceAdd, Nat.reduceSub, Nat.reduceMul, Int.reduceNeg, Nat.reduceLT, Int.reduceToNat, Nat.reduceLeDiff, Nat.sub_zero, F47])
  refine f65 ?_
  (try simp (maxSteps := 1000000) (dsimp := false) (disch := (first | omega | (simp only [okR]; done) | (simp only [sizeR] <;> omega) | fail)) only [↓preR, postR, ↓w_join, Nat.reduceEqDiff, Nat.reduceAdd, Nat.reduceSub, Nat.reduceMul, Int.reduceNeg, Nat.reduceLT, Int.reduceToNat, Nat.reduceLeDiff, Nat.sub_zero, F65])
  have h3 : Hs _ X (Cel σ.n [.map (some m)] :: Mp (κ := Str) m none (encL S.l) :: Cel v [.string (bs zero), av, .map (some m), .int .i64 S.st] :: StrR av S.ar :: R) := (h2.front 2 rfl).swap
  refine appendseq_c hok hl h3 fun u s1 d hd h4 => ?_
  (try simp (maxSteps := 1000000) (dsimp := false) (disch := (first | omega | (simp only [okR]; done) | (simp only [sizeR] <;> omega) | fail)) only [↓preR, postR, ↓w_join, Nat.reduceEqDiff, Nat.reduceAdd, Nat.reduceSub, Nat.reduceMul, Int.reduceNeg, Nat.reduceLT, Int.reduceToNat, Nat.reduceLeDiff, Nat.sub_zero])
  refine sortR_c (l := S.l) h4 (by rw [hd.length_eq]; simpa using hl) fun w s2 h5 => ?_
  (try simp (maxSteps := 1000000) (dsimp := false) (disch := (first | omega | (simp only [okR]; done) | (simp only [sizeR] <;> omega) | fail)) only [↓preR, postR, ↓w_join, Nat.reduceEqDiff, Nat.reduceAdd, Nat.reduceSub, Nat.reduceMul, Int.reduceNeg, Nat.reduceLT, Int.reduceToNat, Nat.reduceLeDiff, Nat.sub_zero])
  rw [sortS_perm hd] at h5
  have h6 : Hs s2 X (Cel σ.n [.map (some m)] :: VarR u (allV S.l) :: Mp (κ := Str) m none (encL S.l) :: Cel v [.string (bs zero), av, .map (some m), .int .i64 S.st] :: StrR av S.ar :: R) := h5.front 1 rfl
  have h7 : Hs s2 X (Cel v [.string (bs zero), av, .map (some m), .int .i64 S.st] :: VarR u (allV S.l) :: Mp (κ := Str) m none (encL S.l) :: StrR av S.ar :: R) := h6.drop.front 2 rfl
  have h8 : Hs s2 X (Cel v [.string (bs zero), av, .map (some m), .int .i64 S.st] :: Mp (κ := Str) m none (encL S.l) :: StrR av S.ar :: VarR u (allV S.l) :: R) := ((h7.front 1 rfl).un3)
  exact hk _ _ (Hs.swap (Vs.close h8))
end
end Go.Proofs.YtkpnackmijjciaaGreatDoor
