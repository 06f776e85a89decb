/- The chapter's examples hold. Conditions: none. -/
import Derived.Test.YtaenpaeigoeebaaSplO
namespace Go.Proofs.Ytaenpaeigoeebaa
open E Go.Lib
set_option linter.unusedVariables false
set_option linter.unusedSimpArgs false
set_option maxHeartbeats 1000000
set_option maxRecDepth 20000

section
variable {σ σ' : AS} {k : Value → AS → Prop}
theorem lit_rep {α : Type} [Rp α] {l : List α} {xs : List Value} {g n : Nat} (hm : σ.m g = some (.cells xs)) (h : RpL σ.ld l xs) (hl : l.length = n) (hb : n ≤ maxLen) : RepL σ.ld (.slice (some ⟨g, 0, none⟩) n n) l := by
  have hlen := h.len
  rw [hl] at hlen
  exact OwnV.rep (n := n) (.inr ⟨g, n, [], rfl, by rw [List.append_nil]; exact hm, hlen, by rw [List.append_nil]; exact hlen, Nat.le_refl _, hb⟩) hl h (Ce.le_refl _)
theorem small (n : Nat) (h : n ≤ 1000000) : n ≤ maxLen := by unfold maxLen; omega
theorem pc_lit {c : Ce} (t : List UInt8) (q s b : Bool) (h : t.length ≤ 1000000) : Rp.rp (α := Pc) c (t, q, s, b) [.string (bs t), .bool q, .bool s, .bool b] := pc_rp (p := (t, q, s, b)) (small _ h)
def ex1 : List Pc := [([97, 32, 44, 32, 98], false, true, false)]
def ex2 : List Pc := [([97, 44, 44, 98, 44], false, true, false)]
def ex3 : List Pc := [([], true, false, false)]
def ex4 : List Pc := [([97, 32], false, true, false), ([98], true, false, false)]
theorem ex1_ok : fieldsM ex1 [32, 44] = [([97], [false]), ([98], [false])] := by decide
theorem ex2_ok : fieldsM ex2 [32, 44] = [([97], [false]), ([], []), ([98], [false])] := by decide
theorem ex3_ok : fieldsM ex3 [32, 44] = [([], [])] := by decide
theorem ex4_ok : fieldsM ex4 [32] = [([97], [false]), ([98], [true])] := by decide
theorem awake_ok (hk : ∀ σ', Chg [] σ σ' → k (.bool true) σ') : kCall Try.prog 9 [] σ k := by
  refine f9 ?_
  (try simp (maxSteps := 1000000) (dsimp := false) (disch := (first | omega | (simp only [okR]; done) | (simp only [sizeR] <;> omega) | fail)) only [↓preR, postR, ↓w_join, Nat.reduceEqDiff, Nat.reduceAdd, Nat.reduceSub, Nat.reduceMul, Int.reduceNeg, Nat.reduceLT, Int.reduceToNat, Nat.reduceLeDiff, Nat.sub_zero, F9])
  refine fields_e (l := ex1) (lit_rep new_eq_ (RpL.one (pc_lit _ _ _ _ (by decide))) rfl (small _ (by decide))) (by decide) ?_
  rw [ex1_ok]
  intro σ1 v1 r1 c1
  have k1 : Chg [] σ σ1 := ((Chg.refl _ _).new _).step c1 (by simp)
  clear c1
  (try simp (maxSteps := 1000000) (dsimp := false) (disch := (first | omega | (simp only [okR]; done) | (simp only [sizeR] <;> omega) | fail)) only [↓preR, postR, ↓w_join, Nat.reduceEqDiff, Nat.reduceAdd, Nat.reduceSub, Nat.reduceMul, Int.reduceNeg, Nat.reduceLT, Int.reduceToNat, Nat.reduceLeDiff, Nat.sub_zero])
  refine fields_e (l := ex2) (lit_rep new_eq_ (RpL.one (pc_lit _ _ _ _ (by decide))) rfl (small _ (by decide))) (by decide) ?_
  rw [ex2_ok]
  intro σ2 v2 r2 c2
  have k2 : Chg [] σ1 σ2 := ((Chg.refl _ _).new _).step c2 (by simp)
  clear c2
  (try simp (maxSteps := 1000000) (dsimp := false) (disch := (first | omega | (simp only [okR]; done) | (simp only [sizeR] <;> omega) | fail)) only [↓preR, postR, ↓w_join, Nat.reduceEqDiff, Nat.reduceAdd, Nat.reduceSub, Nat.reduceMul, Int.reduceNeg, Nat.reduceLT, Int.reduceToNat, Nat.reduceLeDiff, Nat.sub_zero])
  refine fields_e (l := ex3) (lit_rep new_eq_ (RpL.one (pc_lit _ _ _ _ (by decide))) rfl (small _ (by decide))) (by decide) ?_
  rw [ex3_ok]
  intro σ3 v3 r3 c3
  have k3 : Chg [] σ2 σ3 := ((Chg.refl _ _).new _).step c3 (by simp)
  clear c3
  (try simp (maxSteps := 1000000) (dsimp := false) (disch := (first | omega | (simp only [okR]; done) | (simp only [sizeR] <;> omega) | fail)) only [↓preR, postR, ↓w_join, Nat.reduceEqDiff, Nat.reduceAdd, Nat.reduceSub, Nat.reduceMul, Int.reduceNeg, Nat.reduceLT, Int.reduceToNat, Nat.reduceLeDiff, Nat.sub_zero])
  refine fields_e (l := ex4) (lit_rep new_eq_ ((RpL.one (pc_lit _ _ _ _ (by decide))).append (RpL.one (pc_lit _ _ _ _ (by decide)))) rfl (small _ (by decide))) (by decide) ?_
  rw [ex4_ok]
  intro σ4 v4 r4 c4
  have k4 : Chg [] σ3 σ4 := ((Chg.refl _ _).new _).step c4 (by simp)
  clear c4
  have k34 := k4
  have k24 : Chg [] σ2 σ4 := k3.step k34 (by simp)
  have k14 : Chg [] σ1 σ4 := k2.step k24 (by simp)
  have k04 : Chg [] σ σ4 := k1.step k14 (by simp)
  obtain ⟨_, _, rfl, _, h | ⟨b1, o1, rfl, x1⟩⟩ := flds_at (RepL.mono k14.le r1)
  · cases h
  obtain ⟨_, _, rfl, _, h | ⟨b2, o2, rfl, x2⟩⟩ := flds_at (RepL.mono k24.le r2)
  · cases h
  obtain ⟨_, _, rfl, _, h | ⟨b3, o3, rfl, x3⟩⟩ := flds_at (RepL.mono k34.le r3)
  · cases h
  obtain ⟨_, _, rfl, _, h | ⟨b4, o4, rfl, x4⟩⟩ := flds_at r4
  · cases h
  obtain ⟨w1, _, _, _, e1, f1⟩ := x1 1 (by decide)
  obtain ⟨w2, _, _, _, e2, f2⟩ := x2 1 (by decide)
  obtain ⟨w4, _, g4, _, e4, f4⟩ := x4 1 (by decide)
  obtain ⟨_, _, rfl, _, h | ⟨b5, o5, rfl, x5⟩⟩ := bools_at g4
  · cases h
  have e5 := x5 0 (by decide)
  simp only [ldc, Nat.one_mul, Nat.add_zero, List.getElem_cons_succ, List.getElem_cons_zero] at e1 e2 e4 f4 e5
  (try simp (maxSteps := 1000000) (dsimp := false) (disch := (first | omega | (simp only [okR]; done) | (simp only [sizeR] <;> omega) | fail)) only [↓preR, postR, ↓w_join, Nat.reduceEqDiff, Nat.reduceAdd, Nat.reduceSub, Nat.reduceMul, Int.reduceNeg, Nat.reduceLT, Int.reduceToNat, Nat.reduceLeDiff, Nat.sub_zero, e1, e2, e4, f4, e5])
  exact hk σ4 k04
end
end Go.Proofs.Ytaenpaeigoeebaa
