/- Trees: one file's name in the root: strings' functions at that path; the tree as one thing; where the path leads. Conditions: as each theorem says. -/
import Derived.Test.YtmlceloabmkjmaaDoorIn1
import Derived.Lib.Bytealg
namespace Go.Proofs.YtmlceloabmkjmaaDoor
open E Go.Lib
set_option linter.unusedVariables false
set_option linter.unusedSimpArgs false
set_option maxHeartbeats 1000000
set_option maxRecDepth 20000

/-- internal/bytealg.CountString. -/
theorem cnt_by {P : Program} {σ : AS} {k : Value → AS → Prop} {f : FuncId} {s : List UInt8} {c : Int} (n : Int) (hn : (countByte s c.toNat.toUInt8 : Nat) = n) (h : extB P f = true) (he : (P.funcs[f]?).bind Extern.find = some Extern.BytealgCount.count) (hk : k (.int .i64 n) σ) : kGen P (.ext f) [.string (bs s), .int .u8 c] σ k :=
  ext_by h he (fun w => by have := run_countString (P := P) (bs s) c w; rw [← hn]; simpa [bs] using this) hk
abbrev pthA : List UInt8 := [97]
theorem pa0 : (pthA = []) = False := by decide
theorem pa1 : (pthA = [46]) = False := by decide
theorem pa2 : (pthA = [46, 46]) = False := by decide
theorem zero_dir {w : World} : (zeroValue 55).run Tryd.prog w = .ok (.pointer none) w := by kernel_rfl

section
variable {σ σ' : AS} {X : Ce} {R : List Ck} {k : Value → AS → Prop} {f t dm dp nm N : Nat} {V V' : TV} {nl : List (Str × Value)} {i : Int}
theorem trim_c (hk : k (.string (bs pthA)) σ) : kCall Tryd.prog 56 [.string (bs pthA), .string (bs [47])] σ k := by
  refine f56 ?_
  (simp (maxSteps := 1000000) (dsimp := false) (disch := (first | omega | (simp only [okR]; done) | (simp only [sizeR] <;> omega) | fail)) only [↓preR, postR, ↓w_join, Nat.reduceEqDiff, Nat.reduceAdd, Nat.reduceSub, Nat.reduceMul, Int.reduceNeg, Nat.reduceLT, Int.reduceToNat, Nat.reduceLeDiff, Nat.sub_zero, F56])
  refine f65 ?_
  (try simp (maxSteps := 1000000) (dsimp := false) (disch := (first | omega | (simp only [okR]; done) | (simp only [sizeR] <;> omega) | fail)) only [↓preR, postR, ↓w_stop, Nat.reduceEqDiff, Nat.reduceAdd, Nat.reduceSub, Nat.reduceMul, Int.reduceNeg, Nat.reduceLT, Int.reduceToNat, Nat.reduceLeDiff, Nat.sub_zero, F65])
  refine join_now ?_
  refine loop_inv (fun n xs s => xs = [.string (bs pthA)] ∧ σ = s) 0 ⟨rfl, rfl⟩ ?_
  rintro _ _ s again ⟨rfl, rfl⟩ hag
  (try simp (maxSteps := 1000000) (dsimp := false) (disch := (first | omega | (simp only [okR]; done) | (simp only [sizeR] <;> omega) | fail)) only [↓preR, postR, ↓w_join, Nat.reduceEqDiff, Nat.reduceAdd, Nat.reduceSub, Nat.reduceMul, Int.reduceNeg, Nat.reduceLT, Int.reduceToNat, Nat.reduceLeDiff, Nat.sub_zero])
  exact hk
theorem lasti_c (hk : k (.int .i64 (-1)) σ) : kCall Tryd.prog 57 [.string (bs pthA), .int .u8 47] σ k := by
  refine f57 ?_
  (simp (maxSteps := 1000000) (dsimp := false) (disch := (first | omega | (simp only [okR]; done) | (simp only [sizeR] <;> omega) | fail)) only [↓preR, postR, ↓w_join, Nat.reduceEqDiff, Nat.reduceAdd, Nat.reduceSub, Nat.reduceMul, Int.reduceNeg, Nat.reduceLT, Int.reduceToNat, Nat.reduceLeDiff, Nat.sub_zero, F57])
  refine f69 ?_
  (try simp (maxSteps := 1000000) (dsimp := false) (disch := (first | omega | (simp only [okR]; done) | (simp only [sizeR] <;> omega) | fail)) only [↓preR, postR, ↓w_stop, Nat.reduceEqDiff, Nat.reduceAdd, Nat.reduceSub, Nat.reduceMul, Int.reduceNeg, Nat.reduceLT, Int.reduceToNat, Nat.reduceLeDiff, Nat.sub_zero, F69])
  refine join_now ?_
  (try simp (maxSteps := 1000000) (dsimp := false) (disch := (first | omega | (simp only [okR]; done) | (simp only [sizeR] <;> omega) | fail)) only [↓preR, postR, ↓w_stop, Nat.reduceEqDiff, Nat.reduceAdd, Nat.reduceSub, Nat.reduceMul, Int.reduceNeg, Nat.reduceLT, Int.reduceToNat, Nat.reduceLeDiff, Nat.sub_zero])
  refine loop_inv (fun n xs s => (n = 1 ∧ xs = [.int .i64 0] ∨ n = 0 ∧ xs = [.int .i64 (-1)]) ∧ σ = s) 1 ⟨.inl ⟨rfl, rfl⟩, rfl⟩ ?_
  rintro _ _ s again ⟨⟨rfl, rfl⟩ | ⟨rfl, rfl⟩, rfl⟩ hag
  · (try simp (maxSteps := 1000000) (dsimp := false) (disch := (first | omega | (simp only [okR]; done) | (simp only [sizeR] <;> omega) | fail)) only [↓preR, postR, ↓w_join, Nat.reduceEqDiff, Nat.reduceAdd, Nat.reduceSub, Nat.reduceMul, Int.reduceNeg, Nat.reduceLT, Int.reduceToNat, Nat.reduceLeDiff, Nat.sub_zero])
    refine hag 0 _ _ ⟨.inr ⟨rfl, rfl⟩, rfl⟩ (by decide)
  · (try simp (maxSteps := 1000000) (dsimp := false) (disch := (first | omega | (simp only [okR]; done) | (simp only [sizeR] <;> omega) | fail)) only [↓preR, postR, ↓w_join, Nat.reduceEqDiff, Nat.reduceAdd, Nat.reduceSub, Nat.reduceMul, Int.reduceNeg, Nat.reduceLT, Int.reduceToNat, Nat.reduceLeDiff, Nat.sub_zero])
    exact hk
theorem cutp_c (hk : k (.tuple #[.string (bs pthA), .bool false]) σ) : kCall Tryd.prog 58 [.string (bs pthA), .string (bs [47])] σ k := by
  refine f58 ?_
  (simp (maxSteps := 1000000) (dsimp := false) (disch := (first | omega | (simp only [okR]; done) | (simp only [sizeR] <;> omega) | fail)) only [↓preR, postR, ↓w_join, Nat.reduceEqDiff, Nat.reduceAdd, Nat.reduceSub, Nat.reduceMul, Int.reduceNeg, Nat.reduceLT, Int.reduceToNat, Nat.reduceLeDiff, Nat.sub_zero, F58])
  refine f70 ?_
  (simp (maxSteps := 1000000) (dsimp := false) (disch := (first | omega | (simp only [okR]; done) | (simp only [sizeR] <;> omega) | fail)) only [↓preR, postR, ↓w_join, Nat.reduceEqDiff, Nat.reduceAdd, Nat.reduceSub, Nat.reduceMul, Int.reduceNeg, Nat.reduceLT, Int.reduceToNat, Nat.reduceLeDiff, Nat.sub_zero, F70])
  refine f78 ?_
  (simp (maxSteps := 1000000) (dsimp := false) (disch := (first | omega | (simp only [okR]; done) | (simp only [sizeR] <;> omega) | fail)) only [↓preR, postR, ↓w_join, Nat.reduceEqDiff, Nat.reduceAdd, Nat.reduceSub, Nat.reduceMul, Int.reduceNeg, Nat.reduceLT, Int.reduceToNat, Nat.reduceLeDiff, Nat.sub_zero, F78])
  exact hk
theorem split_c (h : Hs σ X R) (hk : ∀ σ' g, Hs σ' X (Cel g [.string (bs pthA)] :: R) → k (.slice (some ⟨g, 0, none⟩) 1 1) σ') : kCall Tryd.prog 59 [.string (bs pthA), .string (bs [47])] σ k := by
  refine f59 ?_
  (simp (maxSteps := 1000000) (dsimp := false) (disch := (first | omega | (simp only [okR]; done) | (simp only [sizeR] <;> omega) | fail)) only [↓preR, postR, ↓w_join, Nat.reduceEqDiff, Nat.reduceAdd, Nat.reduceSub, Nat.reduceMul, Int.reduceNeg, Nat.reduceLT, Int.reduceToNat, Nat.reduceLeDiff, Nat.sub_zero, F59])
  refine f71 ?_
  (simp (maxSteps := 1000000) (dsimp := false) (disch := (first | omega | (simp only [okR]; done) | (simp only [sizeR] <;> omega) | fail)) only [↓preR, postR, ↓w_join, Nat.reduceEqDiff, Nat.reduceAdd, Nat.reduceSub, Nat.reduceMul, Int.reduceNeg, Nat.reduceLT, Int.reduceToNat, Nat.reduceLeDiff, Nat.sub_zero, F71])
  refine f80 ?_
  (simp (maxSteps := 1000000) (dsimp := false) (disch := (first | omega | (simp only [okR]; done) | (simp only [sizeR] <;> omega) | fail)) only [↓preR, postR, ↓w_join, Nat.reduceEqDiff, Nat.reduceAdd, Nat.reduceSub, Nat.reduceMul, Int.reduceNeg, Nat.reduceLT, Int.reduceToNat, Nat.reduceLeDiff, Nat.sub_zero, F80])
  refine cnt_by 0 (by decide) (by kernel_rfl) (by kernel_rfl) ?_
  (simp (maxSteps := 1000000) (dsimp := false) (disch := (first | omega | (simp only [okR]; done) | (simp only [sizeR] <;> omega) | fail)) only [↓preR, postR, ↓w_join, Nat.reduceEqDiff, Nat.reduceAdd, Nat.reduceSub, Nat.reduceMul, Int.reduceNeg, Nat.reduceLT, Int.reduceToNat, Nat.reduceLeDiff, Nat.sub_zero])
  have e : (List.replicate (0 + 1 : Int).toNat [Value.string (bs [])]).flatten = [Value.string (bs [])] := rfl
  have e2 : (0 + 1 : Int).toNat = 1 := rfl
  rw [e, e2]
  have h1 := h.new (cs := [.string (bs [])])
  generalize σ.new (.cells [.string (bs [])]) = s1 at h1 ⊢
  refine loop_inv (fun n xs s => xs = [.string (bs pthA), .int .i64 0] ∧ s1 = s) 0 ⟨rfl, rfl⟩ ?_
  rintro _ _ s again ⟨rfl, rfl⟩ hag
  (simp (maxSteps := 1000000) (dsimp := false) (disch := (first | omega | (simp only [okR]; done) | (simp only [sizeR] <;> omega) | fail)) only [↓preR, postR, ↓w_join, Nat.reduceEqDiff, Nat.reduceAdd, Nat.reduceSub, Nat.reduceMul, Int.reduceNeg, Nat.reduceLT, Int.reduceToNat, Nat.reduceLeDiff, Nat.sub_zero, h1.obj])
  exact hk _ _ h1.put

/-! ### A tree that has a root and at most one file -/
def lkS (nl : List (Str × Value)) : Option Value := @List.lookup Str Value (@instBEqOfDecidableEq Str inferInstance) pthA nl
theorem lkA {o : Option Value} (h : Hs σ X (Mp (κ := Str) nm none nl :: R)) (hn : lkS nl = o) (hK : k (.tuple #[o.getD (.int .i64 0), .bool o.isSome]) σ) : kGen Tryd.prog (.lk 56 true) [.map (some nm), .string (bs pthA)] σ k :=
  lk2_by (κ := Str) (k := pthA) h Tryd.underlying56 Tryd.underlying9 zero_int (by rw [← hn] at hK; exact hK)
structure FsX where
  t : Nat
  dm : Nat
  dp : Nat
  nm : Nat
abbrev FsL (f t dm dp nm N : Nat) (V : TV) (nl : List (Str × Value)) (R : List Ck) : List Ck :=
  Cel f [pp t, .map (some dm)] :: Tb t N V :: Mp (κ := Int) dm none [(1, pp dp)] :: Cel dp [.map (some nm), .int .i64 1] :: Mp (κ := Str) nm none nl :: R
def Fs (f N : Nat) (V : TV) (nl : List (Str × Value)) : Ck := Exs (fun _ : FsX => True) fun x => FsL f x.t x.dm x.dp x.nm N V nl []
theorem Fs.open (h : Hs σ X (Fs f N V nl :: R)) : ∃ t dm dp nm, Hs σ X (FsL f t dm dp nm N V nl R) := by
  obtain ⟨x, _, h1⟩ := h.opened
  exact ⟨_, _, _, _, h1⟩
theorem Fs.close (h : Hs σ X (FsL f t dm dp nm N V nl R)) : Hs σ X (Fs f N V nl :: R) :=
  Hs.closed (p := fun _ : FsX => True) ⟨t, dm, dp, nm⟩ trivial h
def kdV (V : TV) (i : Int) : Int := ((atV V i).map (·.kind)).getD 0
theorem kd_c (h : Hs σ X (FsL f t dm dp nm N V nl R)) (hk : k (.int .i64 (kdV V i)) σ) : kCall Tryd.prog 22 [pp t, .int .i64 i] σ k := vkind_c (h.front 1 rfl) hk
theorem dir_no (h : Hs σ X (FsL f t dm dp nm N V nl R)) (h1 : kdV V i ≠ 2) (hk : k (.pointer none) σ) : kCall Tryd.prog 33 [pp f, .int .i64 i] σ k := by
  refine f33 ?_
  (simp (maxSteps := 1000000) (dsimp := false) (disch := (first | omega | (simp only [okR]; done) | (simp only [sizeR] <;> omega) | fail)) only [↓preR, postR, ↓w_join, Nat.reduceEqDiff, Nat.reduceAdd, Nat.reduceSub, Nat.reduceMul, Int.reduceNeg, Nat.reduceLT, Int.reduceToNat, Nat.reduceLeDiff, Nat.sub_zero, F33, h.obj])
  refine kd_c h ?_
  (simp (maxSteps := 1000000) (dsimp := false) (disch := (first | omega | (simp only [okR]; done) | (simp only [sizeR] <;> omega) | fail)) only [↓preR, postR, ↓w_join, Nat.reduceEqDiff, Nat.reduceAdd, Nat.reduceSub, Nat.reduceMul, Int.reduceNeg, Nat.reduceLT, Int.reduceToNat, Nat.reduceLeDiff, Nat.sub_zero, h1])
  exact hk
theorem dir_root (h : Hs σ X (FsL f t dm dp nm N V nl R)) (h1 : kdV V 1 = 2) (hk : k (pp dp) σ) : kCall Tryd.prog 33 [pp f, .int .i64 1] σ k := by
  refine f33 ?_
  (simp (maxSteps := 1000000) (dsimp := false) (disch := (first | omega | (simp only [okR]; done) | (simp only [sizeR] <;> omega) | fail)) only [↓preR, postR, ↓w_join, Nat.reduceEqDiff, Nat.reduceAdd, Nat.reduceSub, Nat.reduceMul, Int.reduceNeg, Nat.reduceLT, Int.reduceToNat, Nat.reduceLeDiff, Nat.sub_zero, F33, h.obj])
  refine kd_c h ?_
  (simp (maxSteps := 1000000) (dsimp := false) (disch := (first | omega | (simp only [okR]; done) | (simp only [sizeR] <;> omega) | fail)) only [↓preR, postR, ↓w_join, Nat.reduceEqDiff, Nat.reduceAdd, Nat.reduceSub, Nat.reduceMul, Int.reduceNeg, Nat.reduceLT, Int.reduceToNat, Nat.reduceLeDiff, Nat.sub_zero, h1, h.obj])
  refine lk_by (κ := Int) (h.front 2 rfl) Tryd.underlying50 Tryd.underlying3 (fun _ => zero_dir) ?_
  exact hk
/-- Where the name leads. -/
theorem part_none {w : Nat} {fw : Bool} (h : Hs σ X (Cel w [pp f, .int .i64 0] :: FsL f t dm dp nm N V nl R)) (h1 : kdV V 1 = 2) (hn : lkS nl = none) (hk : k (.tuple #[.int .i64 0, .int .i64 23]) σ) :
    kCall Tryd.prog 60 [pp w, .int .i64 1, .string (bs pthA), .bool fw] σ k := by
  refine f60 ?_
  (simp (maxSteps := 1000000) (dsimp := false) (disch := (first | omega | (simp only [okR]; done) | (simp only [sizeR] <;> omega) | fail)) only [↓preR, postR, ↓w_join, Nat.reduceEqDiff, Nat.reduceAdd, Nat.reduceSub, Nat.reduceMul, Int.reduceNeg, Nat.reduceLT, Int.reduceToNat, Nat.reduceLeDiff, Nat.sub_zero, F60, h.obj])
  refine dir_root h.drop h1 ?_
  (simp (maxSteps := 1000000) (dsimp := false) (disch := (first | omega | (simp only [okR]; done) | (simp only [sizeR] <;> omega) | fail)) only [↓preR, postR, ↓w_join, Nat.reduceEqDiff, Nat.reduceAdd, Nat.reduceSub, Nat.reduceMul, Int.reduceNeg, Nat.reduceLT, Int.reduceToNat, Nat.reduceLeDiff, Nat.sub_zero, h.obj4, pa0, pa1, pa2])
  refine lkA (h.front 5 rfl) hn ?_
  (simp (maxSteps := 1000000) (dsimp := false) (disch := (first | omega | (simp only [okR]; done) | (simp only [sizeR] <;> omega) | fail)) only [↓preR, postR, ↓w_join, Nat.reduceEqDiff, Nat.reduceAdd, Nat.reduceSub, Nat.reduceMul, Int.reduceNeg, Nat.reduceLT, Int.reduceToNat, Nat.reduceLeDiff, Nat.sub_zero])
  exact hk
theorem part_some {w : Nat} {fw : Bool} (h : Hs σ X (Cel w [pp f, .int .i64 0] :: FsL f t dm dp nm N V nl R)) (h1 : kdV V 1 = 2) (hn : lkS nl = some (.int .i64 i)) (h3 : kdV V i ≠ 3) (hk : k (.tuple #[.int .i64 i, .int .i64 0]) σ) :
    kCall Tryd.prog 60 [pp w, .int .i64 1, .string (bs pthA), .bool fw] σ k := by
  refine f60 ?_
  (simp (maxSteps := 1000000) (dsimp := false) (disch := (first | omega | (simp only [okR]; done) | (simp only [sizeR] <;> omega) | fail)) only [↓preR, postR, ↓w_join, Nat.reduceEqDiff, Nat.reduceAdd, Nat.reduceSub, Nat.reduceMul, Int.reduceNeg, Nat.reduceLT, Int.reduceToNat, Nat.reduceLeDiff, Nat.sub_zero, F60, h.obj])
  refine dir_root h.drop h1 ?_
  (simp (maxSteps := 1000000) (dsimp := false) (disch := (first | omega | (simp only [okR]; done) | (simp only [sizeR] <;> omega) | fail)) only [↓preR, postR, ↓w_join, Nat.reduceEqDiff, Nat.reduceAdd, Nat.reduceSub, Nat.reduceMul, Int.reduceNeg, Nat.reduceLT, Int.reduceToNat, Nat.reduceLeDiff, Nat.sub_zero, h.obj4, pa0, pa1, pa2])
  refine lkA (h.front 5 rfl) hn ?_
  (simp (maxSteps := 1000000) (dsimp := false) (disch := (first | omega | (simp only [okR]; done) | (simp only [sizeR] <;> omega) | fail)) only [↓preR, postR, ↓w_join, Nat.reduceEqDiff, Nat.reduceAdd, Nat.reduceSub, Nat.reduceMul, Int.reduceNeg, Nat.reduceLT, Int.reduceToNat, Nat.reduceLeDiff, Nat.sub_zero, Option.isSome_some, Option.getD_some, Bool.not_true, h.obj, h.obj1])
  refine kd_c h.drop ?_
  (simp (maxSteps := 1000000) (dsimp := false) (disch := (first | omega | (simp only [okR]; done) | (simp only [sizeR] <;> omega) | fail)) only [↓preR, postR, ↓w_join, Nat.reduceEqDiff, Nat.reduceAdd, Nat.reduceSub, Nat.reduceMul, Int.reduceNeg, Nat.reduceLT, Int.reduceToNat, Nat.reduceLeDiff, Nat.sub_zero, h3])
  exact hk
def PartR (V : TV) (nl : List (Str × Value)) (a e : Int) : Prop := kdV V 1 = 2 ∧ ((lkS nl = none ∧ a = 0 ∧ e = 23) ∨ (lkS nl = some (.int .i64 a) ∧ kdV V a ≠ 3 ∧ e = 0))
theorem part_c {w : Nat} {fw : Bool} {a e : Int} (h : Hs σ X (Cel w [pp f, .int .i64 0] :: FsL f t dm dp nm N V nl R)) (hp : PartR V nl a e) (hk : k (.tuple #[.int .i64 a, .int .i64 e]) σ) :
    kCall Tryd.prog 60 [pp w, .int .i64 1, .string (bs pthA), .bool fw] σ k := by
  obtain ⟨h1, ⟨h2, rfl, rfl⟩ | ⟨h2, h3, rfl⟩⟩ := hp
  · exact part_none h h1 h2 hk
  · exact part_some h h1 h2 h3 hk
theorem goes_c {w : Nat} {fw : Bool} {a e : Int} (h : Hs σ X (Cel w [pp f, .int .i64 0] :: FsL f t dm dp nm N V nl R)) (hp : PartR V nl a e)
    (hk : ∀ σ', Hs σ' X (Cel w [pp f, .int .i64 0] :: FsL f t dm dp nm N V nl R) → k (.tuple #[.int .i64 a, .int .i64 e]) σ') :
    kCall Tryd.prog 49 [pp w, .int .i64 1, .string (bs pthA), .bool fw] σ k := by
  refine f49 ?_
  (simp (maxSteps := 1000000) (dsimp := false) (disch := (first | omega | (simp only [okR]; done) | (simp only [sizeR] <;> omega) | fail)) only [↓preR, postR, ↓w_join, Nat.reduceEqDiff, Nat.reduceAdd, Nat.reduceSub, Nat.reduceMul, Int.reduceNeg, Nat.reduceLT, Int.reduceToNat, Nat.reduceLeDiff, Nat.sub_zero, F49])
  refine cutp_c ?_
  (simp (maxSteps := 1000000) (dsimp := false) (disch := (first | omega | (simp only [okR]; done) | (simp only [sizeR] <;> omega) | fail)) only [↓preR, postR, ↓w_join, Nat.reduceEqDiff, Nat.reduceAdd, Nat.reduceSub, Nat.reduceMul, Int.reduceNeg, Nat.reduceLT, Int.reduceToNat, Nat.reduceLeDiff, Nat.sub_zero])
  refine split_c h fun σ1 g h2 => ?_
  (simp (maxSteps := 1000000) (dsimp := false) (disch := (first | omega | (simp only [okR]; done) | (simp only [sizeR] <;> omega) | fail)) only [↓preR, postR, ↓w_join, Nat.reduceEqDiff, Nat.reduceAdd, Nat.reduceSub, Nat.reduceMul, Int.reduceNeg, Nat.reduceLT, Int.reduceToNat, Nat.reduceLeDiff, Nat.sub_zero])
  refine loop_inv (fun n xs s => ((n = 1 ∧ xs = [.int .i64 1, .int .i64 0]) ∨ (n = 0 ∧ e = 0 ∧ xs = [.int .i64 a, .int .i64 1])) ∧ σ1 = s) 1 ⟨.inl ⟨rfl, rfl⟩, rfl⟩ ?_
  rintro _ _ s again ⟨⟨rfl, rfl⟩ | ⟨rfl, rfl, rfl⟩, rfl⟩ hag
  · (simp (maxSteps := 1000000) (dsimp := false) (disch := (first | omega | (simp only [okR]; done) | (simp only [sizeR] <;> omega) | fail)) only [↓preR, postR, ↓w_join, Nat.reduceEqDiff, Nat.reduceAdd, Nat.reduceSub, Nat.reduceMul, Int.reduceNeg, Nat.reduceLT, Int.reduceToNat, Nat.reduceLeDiff, Nat.sub_zero, h2.obj])
    have hg : ∀ b : Bool, kCall Tryd.prog 60 [pp w, .int .i64 1, .string (bs pthA), .bool b] σ1 = kCall Tryd.prog 60 [pp w, .int .i64 1, .string (bs pthA), .bool b] σ1 := fun _ => rfl
    by_cases he : e = 0
    · cases fw <;> ((try simp (maxSteps := 1000000) (dsimp := false) (disch := (first | omega | (simp only [okR]; done) | (simp only [sizeR] <;> omega) | fail)) only [↓preR, postR, ↓w_join, Nat.reduceEqDiff, Nat.reduceAdd, Nat.reduceSub, Nat.reduceMul, Int.reduceNeg, Nat.reduceLT, Int.reduceToNat, Nat.reduceLeDiff, Nat.sub_zero, h2.obj]); refine part_c h2.drop hp ?_; (simp (maxSteps := 1000000) (dsimp := false) (disch := (first | omega | (simp only [okR]; done) | (simp only [sizeR] <;> omega) | fail)) only [↓preR, postR, ↓w_join, Nat.reduceEqDiff, Nat.reduceAdd, Nat.reduceSub, Nat.reduceMul, Int.reduceNeg, Nat.reduceLT, Int.reduceToNat, Nat.reduceLeDiff, Nat.sub_zero, he]); exact hag 0 _ _ ⟨.inr ⟨rfl, he, rfl⟩, rfl⟩ (by decide))
    · have ha : a = 0 := by
        obtain ⟨_, ⟨_, h5, _⟩ | ⟨_, _, h6⟩⟩ := hp
        · exact h5
        · exact absurd h6 he
      subst ha
      cases fw <;> ((try simp (maxSteps := 1000000) (dsimp := false) (disch := (first | omega | (simp only [okR]; done) | (simp only [sizeR] <;> omega) | fail)) only [↓preR, postR, ↓w_join, Nat.reduceEqDiff, Nat.reduceAdd, Nat.reduceSub, Nat.reduceMul, Int.reduceNeg, Nat.reduceLT, Int.reduceToNat, Nat.reduceLeDiff, Nat.sub_zero, h2.obj]); refine part_c h2.drop hp ?_; (simp (maxSteps := 1000000) (dsimp := false) (disch := (first | omega | (simp only [okR]; done) | (simp only [sizeR] <;> omega) | fail)) only [↓preR, postR, ↓w_join, Nat.reduceEqDiff, Nat.reduceAdd, Nat.reduceSub, Nat.reduceMul, Int.reduceNeg, Nat.reduceLT, Int.reduceToNat, Nat.reduceLeDiff, Nat.sub_zero, he]); exact hk _ h2.drop)
  · (simp (maxSteps := 1000000) (dsimp := false) (disch := (first | omega | (simp only [okR]; done) | (simp only [sizeR] <;> omega) | fail)) only [↓preR, postR, ↓w_join, Nat.reduceEqDiff, Nat.reduceAdd, Nat.reduceSub, Nat.reduceMul, Int.reduceNeg, Nat.reduceLT, Int.reduceToNat, Nat.reduceLeDiff, Nat.sub_zero])
    exact hk _ h2.drop
theorem walk_c {fw : Bool} {a e : Int} (h : Hs σ X (Fs f N V nl :: R)) (hp : PartR V nl a e) (hk : ∀ σ', Hs σ' X (Fs f N V nl :: R) → k (.tuple #[.int .i64 a, .int .i64 e]) σ') :
    kCall Tryd.prog 37 [pp f, .int .i64 1, .string (bs pthA), .bool fw] σ k := by
  obtain ⟨t, dm, dp, nm, h1⟩ := Fs.open h
  refine f37 ?_
  (simp (maxSteps := 1000000) (dsimp := false) (disch := (first | omega | (simp only [okR]; done) | (simp only [sizeR] <;> omega) | fail)) only [↓preR, postR, ↓w_join, Nat.reduceEqDiff, Nat.reduceAdd, Nat.reduceSub, Nat.reduceMul, Int.reduceNeg, Nat.reduceLT, Int.reduceToNat, Nat.reduceLeDiff, Nat.sub_zero, F37])
  refine dir_root h1 hp.1 ?_
  (simp (maxSteps := 1000000) (dsimp := false) (disch := (first | omega | (simp only [okR]; done) | (simp only [sizeR] <;> omega) | fail)) only [↓preR, postR, ↓w_join, Nat.reduceEqDiff, Nat.reduceAdd, Nat.reduceSub, Nat.reduceMul, Int.reduceNeg, Nat.reduceLT, Int.reduceToNat, Nat.reduceLeDiff, Nat.sub_zero])
  refine goes_c h1.new hp fun σ2 h2 => ?_
  (simp (maxSteps := 1000000) (dsimp := false) (disch := (first | omega | (simp only [okR]; done) | (simp only [sizeR] <;> omega) | fail)) only [↓preR, postR, ↓w_join, Nat.reduceEqDiff, Nat.reduceAdd, Nat.reduceSub, Nat.reduceMul, Int.reduceNeg, Nat.reduceLT, Int.reduceToNat, Nat.reduceLeDiff, Nat.sub_zero])
  exact hk _ (Fs.close h2.drop)
end
end Go.Proofs.YtmlceloabmkjmaaDoor
