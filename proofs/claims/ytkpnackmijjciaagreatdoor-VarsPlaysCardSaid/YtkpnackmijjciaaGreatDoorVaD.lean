/- Variables: the calls of the object. Conditions: as each theorem says. -/
import Derived.Test.YtkpnackmijjciaaGreatDoorVaC
namespace Go.Proofs.YtkpnackmijjciaaGreatDoor
open E Go.Lib
set_option linter.unusedVariables false
set_option linter.unusedSimpArgs false
set_option maxHeartbeats 1000000
set_option maxRecDepth 20000

abbrev pv (q : Nat) : Value := .pointer (some ⟨q, 0, none⟩)
abbrev VsL (v : Nat) (zero : Str) (av : Value) (ar : List Str) (m : Nat) (st : Int) (l : VL) (R : List Ck) : List Ck :=
  Cel v [.string (bs zero), av, .map (some m), .int .i64 st] :: Mp (κ := Str) m none (encL l) :: StrR av ar :: R
def Vs (v : Nat) (zero : Str) (ar : List Str) (st : Int) (l : VL) : Ck := Exs (fun _ : Value × Nat => True) fun x => VsL v zero x.1 ar x.2 st l []
section
variable {σ σ' : AS} {X : Ce} {R : List Ck} {k : Value → AS → Prop} {v m : Nat} {av u : Value} {zero n val : Str} {ar ms : List Str} {st : Int} {l : VL} {x x' : VV} {w : Bool}
theorem Vs.open (h : Hs σ X (Vs v zero ar st l :: R)) : ∃ av m, Hs σ X (VsL v zero av ar m st l R) := by
  obtain ⟨x, _, h1⟩ := h.opened
  exact ⟨_, _, h1⟩
theorem Vs.close (h : Hs σ X (VsL v zero av ar m st l R)) : Hs σ X (Vs v zero ar st l :: R) :=
  Hs.closed (p := fun _ : Value × Nat => True) ⟨av, m⟩ trivial h
theorem zero_var (w : World) : (zeroValue 70).run Tryz.prog w = .ok (encV [] z0) w := by kernel_rfl
theorem vlk_by (h : Hs σ X (Mp (κ := Str) m none (encL l) :: R)) (hK : k (encV (nmV l n) (getV l n)) σ) : kGen Tryz.prog (.lk 59 false) [.map (some m), .string (bs n)] σ k := by
  refine lk_by (κ := Str) (k := n) h Tryz.underlying59 Tryz.underlying9 zero_var ?_
  have e : (@List.lookup Str Value (@instBEqOfDecidableEq Str inferInstance) n (encL l)).getD (encV [] z0) = encV (nmV l n) (getV l n) := by
    rw [lookup_encL]
    unfold nmV getV
    cases lkV l n <;> rfl
  rw [← e] at hK
  exact hK
theorem vnew_c (h : Hs σ X R) (hu : TxS σ u ms) (hlen : ms.length ≤ 1000000) (hk : ∀ v σ', Hs σ' X (Vs v zero ms 0 [] :: R) → k (pv v) σ') : kCall Tryz.prog 10 [.string (bs zero), u] σ k := by
  refine f10 ?_
  (try simp (maxSteps := 1000000) (dsimp := false) (disch := (first | omega | (simp only [okR]; done) | (simp only [sizeR] <;> omega) | fail)) only [↓preR, postR, ↓w_join, Nat.reduceEqDiff, Nat.reduceAdd, Nat.reduceSub, Nat.reduceMul, Int.reduceNeg, Nat.reduceLT, Int.reduceToNat, Nat.reduceLeDiff, Nat.sub_zero, F10])
  refine clone_c h hu hlen fun v' σ1 h1 => ?_
  have h2 := (h1.newMap (κ := Str)).new (cs := [.string (bs zero), v', .map (some σ1.n), .int .i64 0])
  obtain ⟨a, g, o, cap, rfl, _⟩ := StrR.get h1
  (simp (maxSteps := 1000000) (dsimp := false) (disch := (first | omega | (simp only [okR]; done) | (simp only [sizeR] <;> omega) | fail)) only [↓preR, postR, ↓w_join, Nat.reduceEqDiff, Nat.reduceAdd, Nat.reduceSub, Nat.reduceMul, Int.reduceNeg, Nat.reduceLT, Int.reduceToNat, Nat.reduceLeDiff, Nat.sub_zero])
  exact hk _ _ (Vs.close (h2.swap.swap))
theorem get_c (h : Hs σ X (Vs v zero ar st l :: R)) (hk : ∀ σ', Hs σ' X (Vs v zero ar st l :: R) → k (.tuple #[.string (bs (getV l n).val), .bool (getV l n).set]) σ') : kCall Tryz.prog 21 [pv v, .string (bs n)] σ k := by
  obtain ⟨av, m, h1⟩ := Vs.open h
  refine f21 ?_
  (simp (maxSteps := 1000000) (dsimp := false) (disch := (first | omega | (simp only [okR]; done) | (simp only [sizeR] <;> omega) | fail)) only [↓preR, postR, ↓w_join, Nat.reduceEqDiff, Nat.reduceAdd, Nat.reduceSub, Nat.reduceMul, Int.reduceNeg, Nat.reduceLT, Int.reduceToNat, Nat.reduceLeDiff, Nat.sub_zero, F21, h1.obj])
  refine vlk_by h1.drop ?_
  (simp (maxSteps := 1000000) (dsimp := false) (disch := (first | omega | (simp only [okR]; done) | (simp only [sizeR] <;> omega) | fail)) only [↓preR, postR, ↓w_join, Nat.reduceEqDiff, Nat.reduceAdd, Nat.reduceSub, Nat.reduceMul, Int.reduceNeg, Nat.reduceLT, Int.reduceToNat, Nat.reduceLeDiff, Nat.sub_zero])
  exact hk _ (h.gar (((Chg.refl _ _).new _).put (.inr (Nat.le_refl _)) _))
theorem del_insM (L : List (Str × Value)) (n : Str) (u : Value) : del (ins L n u) n = del L n := by
  unfold ins del
  split
  · rename_i h
    clear h
    induction L with
    | nil => rfl
    | cons p l ih =>
      rw [List.map_cons, List.filter_cons, List.filter_cons, ih]
      by_cases hp : p.1 = n
      · simp [hp]
      · simp [hp]
  · simp
/-- What turns a variable: hw, by the function value how. -/
theorem turn_c {how : Value} (h : Hs σ X (Vs v zero ar st l :: R)) (hn : n.length ≤ maxLen)
    (hhow : ∀ (p : Nat) (σ1 : AS) (A B C : Ck) (k1 : Value → AS → Prop), Hs σ1 X (Cel p (celV n x) :: A :: B :: C :: R) → x = getV l n → (∀ v1 σ2 n', ((x'.set || x'.exp || x'.ro) = true → n' = n) → Hs σ2 X (Cel p (celV n' x') :: A :: B :: C :: R) → k1 v1 σ2) → kCallv Tryz.prog how [pv p] σ1 k1)
    (hx : x = getV l n)
    (h16 : nameB n = false → ∀ σ', Hs σ' X (Vs v zero ar st l :: R) → k (.int .i64 16) σ')
    (h15 : nameB n = true → w = true → x.ro = true → ∀ σ', Hs σ' X (Vs v zero ar st l :: R) → k (.int .i64 15) σ')
    (hk : nameB n = true → (w = true → x.ro = false) → ∀ σ', Hs σ' X (Vs v zero ar st (turnV l n x') :: R) → k (.int .i64 0) σ') :
    kCall Tryz.prog 53 [pv v, .string (bs n), .bool w, how] σ k := by
  obtain ⟨av, m, h1⟩ := Vs.open h
  refine f53 ?_
  (try simp (maxSteps := 1000000) (dsimp := false) (disch := (first | omega | (simp only [okR]; done) | (simp only [sizeR] <;> omega) | fail)) only [↓preR, postR, ↓w_stop, Nat.reduceEqDiff, Nat.reduceAdd, Nat.reduceSub, Nat.reduceMul, Int.reduceNeg, Nat.reduceLT, Int.reduceToNat, Nat.reduceLeDiff, Nat.sub_zero, F53])
  refine join_by fun J hJ => ?_
  (try simp (maxSteps := 1000000) (dsimp := false) (disch := (first | omega | (simp only [okR]; done) | (simp only [sizeR] <;> omega) | fail)) only [↓preR, postR, ↓w_stop, Nat.reduceEqDiff, Nat.reduceAdd, Nat.reduceSub, Nat.reduceMul, Int.reduceNeg, Nat.reduceLT, Int.reduceToNat, Nat.reduceLeDiff, Nat.sub_zero])
  refine name_c hn ?_
  cases hN : nameB n with
  | false =>
    (try simp (maxSteps := 1000000) (dsimp := false) (disch := (first | omega | (simp only [okR]; done) | (simp only [sizeR] <;> omega) | fail)) only [↓preR, postR, ↓w_join, Nat.reduceEqDiff, Nat.reduceAdd, Nat.reduceSub, Nat.reduceMul, Int.reduceNeg, Nat.reduceLT, Int.reduceToNat, Nat.reduceLeDiff, Nat.sub_zero])
    exact h16 hN _ h
  | true =>
    have tail : (w = true → x.ro = false) → J [] σ := by
      intro hw
      refine hJ _ _ ?_
      clear hJ
      (try simp (maxSteps := 1000000) (dsimp := false) (disch := (first | omega | (simp only [okR]; done) | (simp only [sizeR] <;> omega) | fail)) only [↓preR, postR, ↓w_stop, Nat.reduceEqDiff, Nat.reduceAdd, Nat.reduceSub, Nat.reduceMul, Int.reduceNeg, Nat.reduceLT, Int.reduceToNat, Nat.reduceLeDiff, Nat.sub_zero, h1.obj])
      refine vlk_by h1.drop ?_
      rw [← hx]
      have g1 := h1.new (cs := celV [] z0)
      (simp (maxSteps := 1000000) (dsimp := false) (disch := (first | omega | (simp only [okR]; done) | (simp only [sizeR] <;> omega) | fail)) only [↓preR, postR, ↓w_join, Nat.reduceEqDiff, Nat.reduceAdd, Nat.reduceSub, Nat.reduceMul, Int.reduceNeg, Nat.reduceLT, Int.reduceToNat, Nat.reduceLeDiff, Nat.sub_zero])
      refine hhow _ _ _ _ _ _ (g1.put (cs' := celV n x)) hx fun v1 σ2 n' hn' g4 => ?_
      (simp (maxSteps := 1000000) (dsimp := false) (disch := (first | omega | (simp only [okR]; done) | (simp only [sizeR] <;> omega) | fail)) only [↓preR, postR, ↓w_join, Nat.reduceEqDiff, Nat.reduceAdd, Nat.reduceSub, Nat.reduceMul, Int.reduceNeg, Nat.reduceLT, Int.reduceToNat, Nat.reduceLeDiff, Nat.sub_zero, g4.obj, g4.obj1])
      refine mup_by (κ := Str) (k := n) (g4.front 2 rfl) Tryz.underlying59 Tryz.underlying9 fun σ3 g5 => ?_
      by_cases hd : (x'.set || x'.exp || x'.ro) = true
      · rw [hn' hd] at g5
        rw [ins_encL] at g5
        have e : turnV l n x' = insV l n x' := by unfold turnV; rw [if_pos hd]
        have g6 : Hs σ3 X (VsL v zero av ar m st (insV l n x') R) := Hs.swap (Hs.drop (g5.front 1 rfl))
        have hk' := hk hN hw σ3 (by rw [e]; exact Vs.close g6)
        cases h5 : x'.set
        · cases h6 : x'.exp
          · cases h7 : x'.ro
            · rw [h5, h6, h7] at hd; cases hd
            · (try simp (maxSteps := 1000000) (dsimp := false) (disch := (first | omega | (simp only [okR]; done) | (simp only [sizeR] <;> omega) | fail)) only [↓preR, postR, ↓w_join, Nat.reduceEqDiff, Nat.reduceAdd, Nat.reduceSub, Nat.reduceMul, Int.reduceNeg, Nat.reduceLT, Int.reduceToNat, Nat.reduceLeDiff, Nat.sub_zero, g5.obj1, h5, h6, h7])
              exact hk'
          · (try simp (maxSteps := 1000000) (dsimp := false) (disch := (first | omega | (simp only [okR]; done) | (simp only [sizeR] <;> omega) | fail)) only [↓preR, postR, ↓w_join, Nat.reduceEqDiff, Nat.reduceAdd, Nat.reduceSub, Nat.reduceMul, Int.reduceNeg, Nat.reduceLT, Int.reduceToNat, Nat.reduceLeDiff, Nat.sub_zero, g5.obj1, h5, h6])
            exact hk'
        · (try simp (maxSteps := 1000000) (dsimp := false) (disch := (first | omega | (simp only [okR]; done) | (simp only [sizeR] <;> omega) | fail)) only [↓preR, postR, ↓w_join, Nat.reduceEqDiff, Nat.reduceAdd, Nat.reduceSub, Nat.reduceMul, Int.reduceNeg, Nat.reduceLT, Int.reduceToNat, Nat.reduceLeDiff, Nat.sub_zero, g5.obj1, h5])
          exact hk'
      · have h567 : x'.set = false ∧ x'.exp = false ∧ x'.ro = false := by
          simp only [Bool.or_eq_true, not_or, Bool.not_eq_true] at hd
          exact ⟨hd.1.1, hd.1.2, hd.2⟩
        obtain ⟨h5, h6, h7⟩ := h567
        have e : turnV l n x' = delV l n := by unfold turnV; rw [if_neg hd]
        (simp (maxSteps := 1000000) (dsimp := false) (disch := (first | omega | (simp only [okR]; done) | (simp only [sizeR] <;> omega) | fail)) only [↓preR, postR, ↓w_join, Nat.reduceEqDiff, Nat.reduceAdd, Nat.reduceSub, Nat.reduceMul, Int.reduceNeg, Nat.reduceLT, Int.reduceToNat, Nat.reduceLeDiff, Nat.sub_zero, g5.obj1, g5.obj2, h5, h6, h7])
        refine del_by (κ := Str) (k := n) g5 Tryz.underlying59 Tryz.underlying9 fun σ4 g6 => ?_
        (try simp (maxSteps := 1000000) (dsimp := false) (disch := (first | omega | (simp only [okR]; done) | (simp only [sizeR] <;> omega) | fail)) only [↓preR, postR, ↓w_join, Nat.reduceEqDiff, Nat.reduceAdd, Nat.reduceSub, Nat.reduceMul, Int.reduceNeg, Nat.reduceLT, Int.reduceToNat, Nat.reduceLeDiff, Nat.sub_zero])
        rw [del_insM, del_encL] at g6
        have g7 : Hs σ4 X (VsL v zero av ar m st (delV l n) R) := Hs.swap (Hs.drop (g6.front 1 rfl))
        exact hk hN hw σ4 (by rw [e]; exact Vs.close g7)
    cases w with
    | false =>
      (try simp (maxSteps := 1000000) (dsimp := false) (disch := (first | omega | (simp only [okR]; done) | (simp only [sizeR] <;> omega) | fail)) only [↓preR, postR, ↓w_join, Nat.reduceEqDiff, Nat.reduceAdd, Nat.reduceSub, Nat.reduceMul, Int.reduceNeg, Nat.reduceLT, Int.reduceToNat, Nat.reduceLeDiff, Nat.sub_zero])
      exact tail (fun h => by cases h)
    | true =>
      (simp (maxSteps := 1000000) (dsimp := false) (disch := (first | omega | (simp only [okR]; done) | (simp only [sizeR] <;> omega) | fail)) only [↓preR, postR, ↓w_join, Nat.reduceEqDiff, Nat.reduceAdd, Nat.reduceSub, Nat.reduceMul, Int.reduceNeg, Nat.reduceLT, Int.reduceToNat, Nat.reduceLeDiff, Nat.sub_zero, h1.obj])
      refine vlk_by h1.drop ?_
      rw [← hx]
      (try simp (maxSteps := 1000000) (dsimp := false) (disch := (first | omega | (simp only [okR]; done) | (simp only [sizeR] <;> omega) | fail)) only [↓preR, postR, ↓w_join, Nat.reduceEqDiff, Nat.reduceAdd, Nat.reduceSub, Nat.reduceMul, Int.reduceNeg, Nat.reduceLT, Int.reduceToNat, Nat.reduceLeDiff, Nat.sub_zero])
      cases hr : x.ro with
      | true =>
        (try simp (maxSteps := 1000000) (dsimp := false) (disch := (first | omega | (simp only [okR]; done) | (simp only [sizeR] <;> omega) | fail)) only [↓preR, postR, ↓w_join, Nat.reduceEqDiff, Nat.reduceAdd, Nat.reduceSub, Nat.reduceMul, Int.reduceNeg, Nat.reduceLT, Int.reduceToNat, Nat.reduceLeDiff, Nat.sub_zero])
        exact h15 hN rfl hr _ h
      | false =>
        (try simp (maxSteps := 1000000) (dsimp := false) (disch := (first | omega | (simp only [okR]; done) | (simp only [sizeR] <;> omega) | fail)) only [↓preR, postR, ↓w_join, Nat.reduceEqDiff, Nat.reduceAdd, Nat.reduceSub, Nat.reduceMul, Int.reduceNeg, Nat.reduceLT, Int.reduceToNat, Nat.reduceLeDiff, Nat.sub_zero])
        exact tail (fun _ => hr)
end
end Go.Proofs.YtkpnackmijjciaaGreatDoor
