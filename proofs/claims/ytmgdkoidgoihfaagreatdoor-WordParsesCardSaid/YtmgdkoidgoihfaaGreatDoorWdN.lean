/- Words: the chapter's examples. Conditions: as each theorem says. -/
import Derived.Test.YtmgdkoidgoihfaaGreatDoorWdL
namespace Go.Proofs.YtmgdkoidgoihfaaGreatDoor
open E Go.Lib
open Go.RowKit
set_option linter.unusedVariables false
set_option linter.unusedSimpArgs false
set_option maxHeartbeats 1000000
set_option maxRecDepth 20000

theorem aw1 : wordW [97, 39, 98, 32, 99, 39, 34, 100, 34] 0 = .ok [litP [97] false, litP [98, 32, 99, 100] true] := by kernel_rfl
theorem aw2 : wordW [36, 123, 120, 58, 45, 97, 32, 98, 125] 0 = .ok [.mk 2 [120] false 2 true [litP [97, 32, 98] false]] := by kernel_rfl
theorem aw3 : wordW [36, 40, 101, 99, 104, 111, 32, 34, 97, 34, 41, 36, 40, 40, 49, 43, 50, 41, 41] 0 = .ok [.mk 3 [101, 99, 104, 111, 32, 34, 97, 34] false 0 false [], .mk 4 [49, 43, 50] false 0 false []] := by kernel_rfl
theorem aw4 : wordW [36, 123, 125] 0 = .bad 10 := by kernel_rfl
theorem aw5 : wordW [34, 36, 123, 120, 125, 34] 0 = .ok [.mk 2 [120] true 0 false []] := by kernel_rfl
theorem aw6 : printW [.mk 2 [120] true 0 false []] 0 = ([34, 36, 123, 120, 125, 34], 0) := by
  unfold printW
  rw [wx5, aw5]
  simp only [eqW_refl, if_true]
section
variable {σ σ' : AS} {X : Ce} {R : List Ck} {k : Value → AS → Prop}
theorem awake_c (h : Hs σ X R) (hk : ∀ X' σ', Ce.le X X' → Hs σ' X' R → k (.bool true) σ') : kCall Tryz.prog 5 [] σ k := by
  refine f5 ?_
  (try simp (maxSteps := 1000000) (dsimp := false) (disch := (first | omega | (simp only [okR]; done) | (simp only [sizeR] <;> omega) | fail)) only [↓preR, postR, ↓w_stop, Nat.reduceEqDiff, Nat.reduceAdd, Nat.reduceSub, Nat.reduceMul, Int.reduceNeg, Nat.reduceLT, Int.reduceToNat, Nat.reduceLeDiff, Nat.sub_zero, F5])
  refine parse_c h ?_ (by simp [maxLen])
  rw [aw1]
  intro X1 u1 s1 l1 v1 h1
  obtain ⟨a1, b1, o1, cp1, rfl, _, _, at1⟩ := pts_at v1
  (try simp (maxSteps := 1000000) (dsimp := false) (disch := (first | omega | (simp only [okR]; done) | (simp only [sizeR] <;> omega) | fail)) only [↓preR, postR, ↓w_stop, Nat.reduceEqDiff, Nat.reduceAdd, Nat.reduceSub, Nat.reduceMul, Int.reduceNeg, Nat.reduceLT, Int.reduceToNat, Nat.reduceLeDiff, Nat.sub_zero])
  refine parse_c h1 ?_ (by simp [maxLen])
  rw [aw2]
  intro X2 u2 s2 l2 v2 h2
  obtain ⟨a2, b2, o2, cp2, rfl, _, _, at2⟩ := pts_at v2
  (try simp (maxSteps := 1000000) (dsimp := false) (disch := (first | omega | (simp only [okR]; done) | (simp only [sizeR] <;> omega) | fail)) only [↓preR, postR, ↓w_stop, Nat.reduceEqDiff, Nat.reduceAdd, Nat.reduceSub, Nat.reduceMul, Int.reduceNeg, Nat.reduceLT, Int.reduceToNat, Nat.reduceLeDiff, Nat.sub_zero])
  refine parse_c h2 ?_ (by simp [maxLen])
  rw [aw3]
  intro X3 u3 s3 l3 v3 h3
  obtain ⟨a3, b3, o3, cp3, rfl, _, _, at3⟩ := pts_at v3
  (try simp (maxSteps := 1000000) (dsimp := false) (disch := (first | omega | (simp only [okR]; done) | (simp only [sizeR] <;> omega) | fail)) only [↓preR, postR, ↓w_stop, Nat.reduceEqDiff, Nat.reduceAdd, Nat.reduceSub, Nat.reduceMul, Int.reduceNeg, Nat.reduceLT, Int.reduceToNat, Nat.reduceLeDiff, Nat.sub_zero])
  refine parse_c h3 ?_ (by simp [maxLen])
  rw [aw4]
  intro X4 s4 l4 h4
  (try simp (maxSteps := 1000000) (dsimp := false) (disch := (first | omega | (simp only [okR]; done) | (simp only [sizeR] <;> omega) | fail)) only [↓preR, postR, ↓w_stop, Nat.reduceEqDiff, Nat.reduceAdd, Nat.reduceSub, Nat.reduceMul, Int.reduceNeg, Nat.reduceLT, Int.reduceToNat, Nat.reduceLeDiff, Nat.sub_zero])
  have h5 := h4.new (cs := ptC (.mk 2 [120] true 0 false []) (.slice none 0 0))
  have h6 : Hs _ X4 (E.Own (α := Pt) (.slice (some ⟨s4.n, 0, none⟩) 1 1) [.mk 2 [120] true 0 false []] :: R) := h5.lit (RpL.one (leafOk (by simp [maxLen]) (by omega) (by omega))) rfl (by simp [maxLen])
  obtain ⟨X5, l5, v5, h7⟩ := h6.keep
  (try simp (maxSteps := 1000000) (dsimp := false) (disch := (first | omega | (simp only [okR]; done) | (simp only [sizeR] <;> omega) | fail)) only [↓preR, postR, ↓w_stop, Nat.reduceEqDiff, Nat.reduceAdd, Nat.reduceSub, Nat.reduceMul, Int.reduceNeg, Nat.reduceLT, Int.reduceToNat, Nat.reduceLeDiff, Nat.sub_zero])
  refine print_c (by simp [szW, szPt]) (by simp [hasQ, hasQp]) v5 h7 fun X6 s6 l6 h8 => ?_
  rw [aw6]
  have le5 : Ce.le X1 X6 := Ce.le_trans l2 (Ce.le_trans l3 (Ce.le_trans l4 (Ce.le_trans l5 l6)))
  have le4 : Ce.le X2 X6 := Ce.le_trans l3 (Ce.le_trans l4 (Ce.le_trans l5 l6))
  have le3 : Ce.le X3 X6 := Ce.le_trans l4 (Ce.le_trans l5 l6)
  obtain ⟨rfl, w1, _, _, _, _, _, _, c11, c12, _⟩ := at1 1 (by simp)
  obtain ⟨rfl, w2, _, r2, _, _, _, _, _, _, c23, c24, c25⟩ := at2 0 (by simp)
  obtain ⟨rfl, w3, _, _, _, _, _, c30, _⟩ := at3 0 (by simp)
  obtain ⟨_, w4, _, _, _, _, _, c40, c41, _⟩ := at3 1 (by simp)
  obtain ⟨wa, wc, rfl, _⟩ := r2
  have d11 := h8.ldx (le5 _ _ _ c11)
  have d12 := h8.ldx (le5 _ _ _ c12)
  have d23 := h8.ldx (le4 _ _ _ c23)
  have d24 := h8.ldx (le4 _ _ _ c24)
  have d25 := h8.ldx (le4 _ _ _ c25)
  have d30 := h8.ldx (le3 _ _ _ c30)
  have d40 := h8.ldx (le3 _ _ _ c40)
  have d41 := h8.ldx (le3 _ _ _ c41)
  simp only [List.getElem_cons_succ, List.getElem_cons_zero, Pt.kind, Pt.text, Pt.quote, Pt.op, Pt.colon, Pt.word, Nat.one_mul, Nat.zero_mul, Nat.add_zero] at d11 d12 d23 d24 d25 d30 d40 d41
  (try simp (maxSteps := 1000000) (dsimp := false) (disch := (first | omega | (simp only [okR]; done) | (simp only [sizeR] <;> omega) | fail)) only [↓preR, postR, ↓w_stop, Nat.reduceEqDiff, Nat.reduceAdd, Nat.reduceSub, Nat.reduceMul, Int.reduceNeg, Nat.reduceLT, Int.reduceToNat, Nat.reduceLeDiff, Nat.sub_zero, d11, d12, d23, d24, d25, d30, d40, d41])
  exact hk X6 _ (Ce.le_trans l1 le5) h8
end
end Go.Proofs.YtmgdkoidgoihfaaGreatDoor
