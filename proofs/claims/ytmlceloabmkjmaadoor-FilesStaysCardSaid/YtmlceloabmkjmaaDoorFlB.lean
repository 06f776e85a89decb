/- Trees and open files: the calls. Conditions: as each theorem says. -/
import Derived.Test.YtmlceloabmkjmaaDoorFlA
namespace Go.Proofs.YtmlceloabmkjmaaDoor
open E Go.Lib
set_option linter.unusedVariables false
set_option linter.unusedSimpArgs false
set_option maxHeartbeats 1000000
set_option maxRecDepth 20000

abbrev plcV (dp : Nat) : Value := .agg #[.int .i64 1, pp dp, .string (bs pthA)]
theorem gv10 (x : Value) : E.gv [x] 0 = x := rfl
section
variable {σ σ' : AS} {X : Ce} {R : List Ck} {k : Value → AS → Prop} {f t dm dp nm N : Nat} {V V1 V2 V' : TV} {nl : List (Str × Value)} {i a e n at_ : Int} {s s2 data : List UInt8} {d : NV}
theorem FsL.inn {C : Ck} (h : Hs σ X (C :: FsL f t dm dp nm N V nl R)) : Hs σ X (FsL f t dm dp nm N V nl (C :: R)) :=
  ((((h.front 5 rfl).front 5 rfl).front 5 rfl).front 5 rfl).front 5 rfl
theorem FsL.out {C : Ck} (h : Hs σ X (FsL f t dm dp nm N V nl (C :: R))) : Hs σ X (C :: FsL f t dm dp nm N V nl R) := h.front 5 rfl
theorem tplace_c (h : Hs σ X (FsL f t dm dp nm N V nl R)) (h1 : kdV V 1 = 2) (hk : ∀ σ', Hs σ' X (FsL f t dm dp nm N V nl R) → k (.tuple #[plcV dp, .int .i64 0]) σ') :
    kCall Tryd.prog 47 [pp f, .int .i64 1, .string (bs pthA)] σ k := by
  refine f47 ?_
  have h2 := h.new (cs := [.int .i64 0, .pointer none, .string (bs [])])
  (simp (maxSteps := 1000000) (dsimp := false) (disch := (first | omega | (simp only [okR]; done) | (simp only [sizeR] <;> omega) | fail)) only [↓preR, postR, ↓w_join, Nat.reduceEqDiff, Nat.reduceAdd, Nat.reduceSub, Nat.reduceMul, Int.reduceNeg, Nat.reduceLT, Int.reduceToNat, Nat.reduceLeDiff, Nat.sub_zero, F47, pa0, pa1, pa2])
  refine dir_root h2.drop h1 ?_
  (simp (maxSteps := 1000000) (dsimp := false) (disch := (first | omega | (simp only [okR]; done) | (simp only [sizeR] <;> omega) | fail)) only [↓preR, postR, ↓w_join, Nat.reduceEqDiff, Nat.reduceAdd, Nat.reduceSub, Nat.reduceMul, Int.reduceNeg, Nat.reduceLT, Int.reduceToNat, Nat.reduceLeDiff, Nat.sub_zero, pa0, pa1, pa2])
  refine trim_c ?_
  refine lasti_c ?_
  have e0 : List.drop (Int.toNat (IntKind.i64.wrap (-1 + 1))) pthA = pthA := by kernel_rfl
  have e3 : List.take (1 - (-1 + 1 : Int).toNat) (List.drop (-1 + 1 : Int).toNat pthA) = pthA := by decide
  (simp (maxSteps := 1000000) (dsimp := false) (disch := (first | omega | (simp only [okR]; done) | (simp only [sizeR] <;> omega) | fail)) only [↓preR, postR, ↓w_join, Nat.reduceEqDiff, Nat.reduceAdd, Nat.reduceSub, Nat.reduceMul, Int.reduceNeg, Nat.reduceLT, Int.reduceToNat, Nat.reduceLeDiff, Nat.sub_zero, pa0, pa1, pa2, e0, e3])
  refine dir_root h2.drop h1 ?_
  (simp (maxSteps := 1000000) (dsimp := false) (disch := (first | omega | (simp only [okR]; done) | (simp only [sizeR] <;> omega) | fail)) only [↓preR, postR, ↓w_join, Nat.reduceEqDiff, Nat.reduceAdd, Nat.reduceSub, Nat.reduceMul, Int.reduceNeg, Nat.reduceLT, Int.reduceToNat, Nat.reduceLeDiff, Nat.sub_zero, h2.obj, gv10])
  exact hk _ h2.put.drop
theorem tfree_c (h : Hs σ X (FsL f t dm dp nm N V nl R)) (h1 : kdV V 1 = 2) (hl : (((atV V 1).map (·.names)).getD 0) ≠ 0) (hn : lkS nl = none) (hk : ∀ σ', Hs σ' X (FsL f t dm dp nm N V nl R) → k (.tuple #[plcV dp, .int .i64 0]) σ') :
    kCall Tryd.prog 61 [pp f, .int .i64 1, .string (bs pthA)] σ k := by
  refine f61 ?_
  have h2 := h.new (cs := [.int .i64 0, .pointer none, .string (bs [])])
  (simp (maxSteps := 1000000) (dsimp := false) (disch := (first | omega | (simp only [okR]; done) | (simp only [sizeR] <;> omega) | fail)) only [↓preR, postR, ↓w_join, Nat.reduceEqDiff, Nat.reduceAdd, Nat.reduceSub, Nat.reduceMul, Int.reduceNeg, Nat.reduceLT, Int.reduceToNat, Nat.reduceLeDiff, Nat.sub_zero, F61])
  refine tplace_c (FsL.inn h2) h1 fun σ1 h3 => ?_
  have h4 := h3.new (cs := [.int .i64 0, .pointer none, .string (bs [])])
  have h5 := h4.put (cs' := [.int .i64 1, pp dp, .string (bs pthA)])
  (simp (maxSteps := 1000000) (dsimp := false) (disch := (first | omega | (simp only [okR]; done) | (simp only [sizeR] <;> omega) | fail)) only [↓preR, postR, ↓w_join, Nat.reduceEqDiff, Nat.reduceAdd, Nat.reduceSub, Nat.reduceMul, Int.reduceNeg, Nat.reduceLT, Int.reduceToNat, Nat.reduceLeDiff, Nat.sub_zero, h4.obj, h5.obj4])
  refine lkA (h5.front 5 rfl) hn ?_
  (simp (maxSteps := 1000000) (dsimp := false) (disch := (first | omega | (simp only [okR]; done) | (simp only [sizeR] <;> omega) | fail)) only [↓preR, postR, ↓w_join, Nat.reduceEqDiff, Nat.reduceAdd, Nat.reduceSub, Nat.reduceMul, Int.reduceNeg, Nat.reduceLT, Int.reduceToNat, Nat.reduceLeDiff, Nat.sub_zero, Option.isSome_none, h5.obj, h5.obj1])
  refine vlinks_c (h5.front 2 rfl) ?_
  have h6 : Hs _ X (Cel σ.n _ :: Cel σ1.n _ :: FsL f t dm dp nm N V nl R) := h5.front 6 rfl
  (simp (maxSteps := 1000000) (dsimp := false) (disch := (first | omega | (simp only [okR]; done) | (simp only [sizeR] <;> omega) | fail)) only [↓preR, postR, ↓w_join, Nat.reduceEqDiff, Nat.reduceAdd, Nat.reduceSub, Nat.reduceMul, Int.reduceNeg, Nat.reduceLT, Int.reduceToNat, Nat.reduceLeDiff, Nat.sub_zero, hl, h5.obj, h6.obj])
  exact hk _ h6.put.drop.drop
theorem tmade_c (h : Hs σ X (FsL f t dm dp nm N V [] R)) (h1 : kdV V 1 = 2) (hl : (((atV V 1).map (·.names)).getD 0) ≠ 0)
    (hr1 : doM (0, 0, 0, 1, []) V 0 = ((a, s, 0), V1)) (hb : ∀ d, atV V1 a = some d → -1000000 ≤ d.names ∧ d.names ≤ 1000000) (hr2 : doM (1, a, 0, 0, []) V1 0 = ((e, s2, 0), V2)) (hd : atV V2 a = some d)
    (hk : ∀ σ', Hs σ' X (FsL f t dm dp nm N V2 [(pthA, .int .i64 a)] R) → k (.tuple #[.int .i64 a, .int .i64 0]) σ') :
    kCall Tryd.prog 38 [pp f, .int .i64 1, .string (bs pthA)] σ k := by
  refine f38 ?_
  (simp (maxSteps := 1000000) (dsimp := false) (disch := (first | omega | (simp only [okR]; done) | (simp only [sizeR] <;> omega) | fail)) only [↓preR, postR, ↓w_join, Nat.reduceEqDiff, Nat.reduceAdd, Nat.reduceSub, Nat.reduceMul, Int.reduceNeg, Nat.reduceLT, Int.reduceToNat, Nat.reduceLeDiff, Nat.sub_zero, F38])
  refine f50 ?_
  (simp (maxSteps := 1000000) (dsimp := false) (disch := (first | omega | (simp only [okR]; done) | (simp only [sizeR] <;> omega) | fail)) only [↓preR, postR, ↓w_join, Nat.reduceEqDiff, Nat.reduceAdd, Nat.reduceSub, Nat.reduceMul, Int.reduceNeg, Nat.reduceLT, Int.reduceToNat, Nat.reduceLeDiff, Nat.sub_zero, F50])
  refine tfree_c h h1 hl rfl fun σ1 h3 => ?_
  have h4 := h3.new (cs := [.int .i64 0, .pointer none, .string (bs [])])
  have h5 := h4.put (cs' := [.int .i64 1, pp dp, .string (bs pthA)])
  (simp (maxSteps := 1000000) (dsimp := false) (disch := (first | omega | (simp only [okR]; done) | (simp only [sizeR] <;> omega) | fail)) only [↓preR, postR, ↓w_join, Nat.reduceEqDiff, Nat.reduceAdd, Nat.reduceSub, Nat.reduceMul, Int.reduceNeg, Nat.reduceLT, Int.reduceToNat, Nat.reduceLeDiff, Nat.sub_zero, h4.obj, h5.obj1])
  refine emake (h5.front 2 rfl) hr1 fun σ2 h6 => ?_
  (simp (maxSteps := 1000000) (dsimp := false) (disch := (first | omega | (simp only [okR]; done) | (simp only [sizeR] <;> omega) | fail)) only [↓preR, postR, ↓w_join, Nat.reduceEqDiff, Nat.reduceAdd, Nat.reduceSub, Nat.reduceMul, Int.reduceNeg, Nat.reduceLT, Int.reduceToNat, Nat.reduceLeDiff, Nat.sub_zero, h6.obj2])
  refine etie h6 hb hr2 fun σ3 h7 => ?_
  (simp (maxSteps := 1000000) (dsimp := false) (disch := (first | omega | (simp only [okR]; done) | (simp only [sizeR] <;> omega) | fail)) only [↓preR, postR, ↓w_join, Nat.reduceEqDiff, Nat.reduceAdd, Nat.reduceSub, Nat.reduceMul, Int.reduceNeg, Nat.reduceLT, Int.reduceToNat, Nat.reduceLeDiff, Nat.sub_zero, h7.obj2])
  have hw : doM (6, a, 0, 0, []) V2 0 = ((0, [], 0), V2) := by
    simp only [doM]; rw [hd]; rfl
  refine ewrite (m := 0) h7 (by decide) (by decide) (fun d' hd' _ _ => ⟨Nat.le_refl _, Fits.none _ _ _, .inl rfl⟩) hw fun σ4 h8 => ?_
  (simp (maxSteps := 1000000) (dsimp := false) (disch := (first | omega | (simp only [okR]; done) | (simp only [sizeR] <;> omega) | fail)) only [↓preR, postR, ↓w_join, Nat.reduceEqDiff, Nat.reduceAdd, Nat.reduceSub, Nat.reduceMul, Int.reduceNeg, Nat.reduceLT, Int.reduceToNat, Nat.reduceLeDiff, Nat.sub_zero, h8.obj1, h8.obj4])
  refine mup_by (κ := Str) (k := pthA) (h8.front 5 rfl) Tryd.underlying56 Tryd.underlying9 fun σ5 h9 => ?_
  (simp (maxSteps := 1000000) (dsimp := false) (disch := (first | omega | (simp only [okR]; done) | (simp only [sizeR] <;> omega) | fail)) only [↓preR, postR, ↓w_join, Nat.reduceEqDiff, Nat.reduceAdd, Nat.reduceSub, Nat.reduceMul, Int.reduceNeg, Nat.reduceLT, Int.reduceToNat, Nat.reduceLeDiff, Nat.sub_zero])
  have h10 : Hs σ5 X (Mp (κ := Str) nm none [(pthA, .int .i64 a)] :: Tb t N V2 :: Cel f [pp t, .map (some dm)] :: Mp (κ := Int) dm none [(1, pp dp)] :: Cel dp [.map (some nm), .int .i64 1] :: R) := Hs.drop (h9.front 2 rfl)
  exact hk _ ((((h10.front 4 rfl).front 4 rfl).front 3 rfl).front 4 rfl)
theorem tdrop_c (h : Hs σ X (FsL f t dm dp nm N V [(pthA, .int .i64 a)] R)) (hb : ∀ d, atV V a = some d → -1000000 ≤ d.names ∧ d.names ≤ 1000000) (hr : doM (2, a, 0, 0, []) V 0 = ((e, s, 0), V'))
    (hk : ∀ v σ', Hs σ' X (FsL f t dm dp nm N V' [] R) → k v σ') :
    kCall Tryd.prog 34 [pp f, plcV dp, .int .i64 a] σ k := by
  refine f34 ?_
  have q1 := h.new (cs := [.int .i64 1, pp dp, .string (bs pthA)])
  (simp (maxSteps := 1000000) (dsimp := false) (disch := (first | omega | (simp only [okR]; done) | (simp only [sizeR] <;> omega) | fail)) only [↓preR, postR, ↓w_join, Nat.reduceEqDiff, Nat.reduceAdd, Nat.reduceSub, Nat.reduceMul, Int.reduceNeg, Nat.reduceLT, Int.reduceToNat, Nat.reduceLeDiff, Nat.sub_zero, F34, q1.obj, q1.obj4])
  refine del_by (κ := Str) (k := pthA) (q1.front 5 rfl) Tryd.underlying56 Tryd.underlying9 fun σ2 q2 => ?_
  (simp (maxSteps := 1000000) (dsimp := false) (disch := (first | omega | (simp only [okR]; done) | (simp only [sizeR] <;> omega) | fail)) only [↓preR, postR, ↓w_join, Nat.reduceEqDiff, Nat.reduceAdd, Nat.reduceSub, Nat.reduceMul, Int.reduceNeg, Nat.reduceLT, Int.reduceToNat, Nat.reduceLeDiff, Nat.sub_zero, q2.obj2])
  refine euntie (q2.front 3 rfl) hb hr fun σ3 q3 => ?_
  have q4 : Hs σ3 X (Tb t N V' :: Mp (κ := Str) nm none [] :: Cel f [pp t, .map (some dm)] :: Mp (κ := Int) dm none [(1, pp dp)] :: Cel dp [.map (some nm), .int .i64 1] :: R) := Hs.drop (q3.front 2 rfl)
  exact hk _ _ ((((q4.front 1 rfl).front 4 rfl).front 4 rfl).front 3 rfl |>.front 4 rfl)
theorem tunlink_c (h : Hs σ X (FsL f t dm dp nm N V [(pthA, .int .i64 a)] R)) (h1 : kdV V 1 = 2) (h2 : kdV V a ≠ 2) (hb : ∀ d, atV V a = some d → -1000000 ≤ d.names ∧ d.names ≤ 1000000) (hr : doM (2, a, 0, 0, []) V 0 = ((e, s, 0), V'))
    (hk : ∀ σ', Hs σ' X (FsL f t dm dp nm N V' [] R) → k (.int .i64 0) σ') :
    kCall Tryd.prog 17 [pp f, .int .i64 1, .string (bs pthA)] σ k := by
  refine f17 ?_
  (simp (maxSteps := 1000000) (dsimp := false) (disch := (first | omega | (simp only [okR]; done) | (simp only [sizeR] <;> omega) | fail)) only [↓preR, postR, ↓w_join, Nat.reduceEqDiff, Nat.reduceAdd, Nat.reduceSub, Nat.reduceMul, Int.reduceNeg, Nat.reduceLT, Int.reduceToNat, Nat.reduceLeDiff, Nat.sub_zero, F17])
  refine f32 ?_
  have g1 := h.new (cs := [.int .i64 0, .pointer none, .string (bs [])])
  (simp (maxSteps := 1000000) (dsimp := false) (disch := (first | omega | (simp only [okR]; done) | (simp only [sizeR] <;> omega) | fail)) only [↓preR, postR, ↓w_join, Nat.reduceEqDiff, Nat.reduceAdd, Nat.reduceSub, Nat.reduceMul, Int.reduceNeg, Nat.reduceLT, Int.reduceToNat, Nat.reduceLeDiff, Nat.sub_zero, F32])
  refine tplace_c (FsL.inn g1) h1 fun σ1 g2 => ?_
  have g3 := g2.new (cs := [.int .i64 0, .pointer none, .string (bs [])])
  have g4 := g3.put (cs' := [.int .i64 1, pp dp, .string (bs pthA)])
  have g5 : Hs _ X (Cel σ.n _ :: Cel σ1.n _ :: FsL f t dm dp nm N V _ R) := g4.front 6 rfl
  (simp (maxSteps := 1000000) (dsimp := false) (disch := (first | omega | (simp only [okR]; done) | (simp only [sizeR] <;> omega) | fail)) only [↓preR, postR, ↓w_join, Nat.reduceEqDiff, Nat.reduceAdd, Nat.reduceSub, Nat.reduceMul, Int.reduceNeg, Nat.reduceLT, Int.reduceToNat, Nat.reduceLeDiff, Nat.sub_zero, g3.obj, g4.obj4])
  refine lkA (g4.front 5 rfl) (o := some (.int .i64 a)) rfl ?_
  (simp (maxSteps := 1000000) (dsimp := false) (disch := (first | omega | (simp only [okR]; done) | (simp only [sizeR] <;> omega) | fail)) only [↓preR, postR, ↓w_join, Nat.reduceEqDiff, Nat.reduceAdd, Nat.reduceSub, Nat.reduceMul, Int.reduceNeg, Nat.reduceLT, Int.reduceToNat, Nat.reduceLeDiff, Nat.sub_zero, Option.isSome_some, Option.getD_some, Bool.not_true, g4.obj, g5.obj])
  have g6 := g5.put (cs' := [.int .i64 1, pp dp, .string (bs pthA)])
  have g7 := g6.new (cs := [.int .i64 0, .pointer none, .string (bs [])])
  have g8 := g7.put (cs' := [.int .i64 1, pp dp, .string (bs pthA)])
  have g9 := g8.drop.drop.drop
  refine dir_no g9 h2 ?_
  (simp (maxSteps := 1000000) (dsimp := false) (disch := (first | omega | (simp only [okR]; done) | (simp only [sizeR] <;> omega) | fail)) only [↓preR, postR, ↓w_join, Nat.reduceEqDiff, Nat.reduceAdd, Nat.reduceSub, Nat.reduceMul, Int.reduceNeg, Nat.reduceLT, Int.reduceToNat, Nat.reduceLeDiff, Nat.sub_zero, g8.obj])
  refine tdrop_c g9 hb hr fun _ σ3 q3 => ?_
  exact hk _ q3
end
end Go.Proofs.YtmlceloabmkjmaaDoor
