/- Trees and open files: a new tree, bytes of a file, files. Conditions: as each theorem says. -/
import Derived.Test.YtmlceloabmkjmaaDoorFlB
namespace Go.Proofs.YtmlceloabmkjmaaDoor
open E Go.Lib
set_option linter.unusedVariables false
set_option linter.unusedSimpArgs false
set_option maxHeartbeats 1000000
set_option maxRecDepth 20000

abbrev FlC (x f : Nat) (i at_ fl : Int) (cl : Bool) : Ck := Cel x [pp f, .int .i64 i, .int .i64 at_, .int .i64 fl, .bool cl]
section
variable {σ σ' : AS} {X : Ce} {R : List Ck} {k : Value → AS → Prop} {f t dm dp nm N x : Nat} {V V1 V2 V' : TV} {nl : List (Str × Value)} {i a b e n at_ fl : Int} {s s2 data : List UInt8} {d : NV}
theorem tnew_c {a' e' : Int} (h : Hs σ X R) (ha : 1 ≤ a) (ha2 : a ≤ 1024) (hb : 1 ≤ b) (hb2 : b ≤ 4096) (hr1 : doM (0, 0, 0, 2, []) (List.replicate a.toNat none) 0 = ((a', s, e), V1))
    (hr2 : doM (1, 1, 0, 0, []) V1 0 = ((e', s2, n), V2)) (hm : ∀ d, atV V1 1 = some d → -1000000 ≤ d.names ∧ d.names ≤ 1000000)
    (hk : ∀ f σ', Hs σ' X (Fs f b.toNat V2 [] :: R) → k (.tuple #[pp f, .int .i64 0]) σ') :
    kCall Tryd.prog 7 [.int .i64 a, .int .i64 b] σ k := by
  refine f7 ?_
  (simp (maxSteps := 1000000) (dsimp := false) (disch := (first | omega | (simp only [okR]; done) | (simp only [sizeR] <;> omega) | fail)) only [↓preR, postR, ↓w_join, Nat.reduceEqDiff, Nat.reduceAdd, Nat.reduceSub, Nat.reduceMul, Int.reduceNeg, Nat.reduceLT, Int.reduceToNat, Nat.reduceLeDiff, Nat.sub_zero, F7])
  refine vnew_c h (fun hb => by omega) fun t σ1 _ _ _ _ h1 => ?_
  have h2 : Hs _ X (Cel (σ1.n + 1) [pp t, .map (some σ1.n)] :: Mp (κ := Int) σ1.n none [] :: Tb t b.toNat (List.replicate a.toNat none) :: R) := (h1.newMap (κ := Int)).new (cs := [pp t, .map (some σ1.n)])
  (simp (maxSteps := 1000000) (dsimp := false) (disch := (first | omega | (simp only [okR]; done) | (simp only [sizeR] <;> omega) | fail)) only [↓preR, postR, ↓w_join, Nat.reduceEqDiff, Nat.reduceAdd, Nat.reduceSub, Nat.reduceMul, Int.reduceNeg, Nat.reduceLT, Int.reduceToNat, Nat.reduceLeDiff, Nat.sub_zero])
  refine emake (h2.front 2 rfl) hr1 fun σ2 h3 => ?_
  refine etie h3 hm hr2 fun σ3 h4 => ?_
  have h5 : Hs _ X (Cel (σ3.n + 1) [.map (some σ3.n), .int .i64 1] :: Mp (κ := Str) σ3.n none [] :: Tb t b.toNat V2 :: Cel (σ1.n + 1) [pp t, .map (some σ1.n)] :: Mp (κ := Int) σ1.n none [] :: R) := (h4.newMap (κ := Str)).new (cs := [.map (some σ3.n), .int .i64 1])
  (simp (maxSteps := 1000000) (dsimp := false) (disch := (first | omega | (simp only [okR]; done) | (simp only [sizeR] <;> omega) | fail)) only [↓preR, postR, ↓w_join, Nat.reduceEqDiff, Nat.reduceAdd, Nat.reduceSub, Nat.reduceMul, Int.reduceNeg, Nat.reduceLT, Int.reduceToNat, Nat.reduceLeDiff, Nat.sub_zero, h4.obj1])
  refine mup_by (κ := Int) (h5.front 4 rfl) Tryd.underlying50 Tryd.underlying3 fun σ4 h6 => ?_
  have h7 : Hs σ4 X (Mp (κ := Int) σ1.n none [(1, pp (σ3.n + 1))] :: Cel (σ3.n + 1) [.map (some σ3.n), .int .i64 1] :: Mp (κ := Str) σ3.n none [] :: Tb t b.toNat V2 :: Cel (σ1.n + 1) [pp t, .map (some σ1.n)] :: R) := h6
  (simp (maxSteps := 1000000) (dsimp := false) (disch := (first | omega | (simp only [okR]; done) | (simp only [sizeR] <;> omega) | fail)) only [↓preR, postR, ↓w_join, Nat.reduceEqDiff, Nat.reduceAdd, Nat.reduceSub, Nat.reduceMul, Int.reduceNeg, Nat.reduceLT, Int.reduceToNat, Nat.reduceLeDiff, Nat.sub_zero])
  exact hk _ _ (Fs.close ((h7.front 3 rfl).front 4 rfl))
theorem tkind_c (h : Hs σ X (FsL f t dm dp nm N V nl R)) (h0 : kdV V i ≠ 0) (hk : k (.tuple #[.int .i64 (kdV V i), .int .i64 0]) σ) : kCall Tryd.prog 43 [pp f, .int .i64 i] σ k := by
  refine f43 ?_
  (simp (maxSteps := 1000000) (dsimp := false) (disch := (first | omega | (simp only [okR]; done) | (simp only [sizeR] <;> omega) | fail)) only [↓preR, postR, ↓w_join, Nat.reduceEqDiff, Nat.reduceAdd, Nat.reduceSub, Nat.reduceMul, Int.reduceNeg, Nat.reduceLT, Int.reduceToNat, Nat.reduceLeDiff, Nat.sub_zero, F43, h.obj])
  refine kd_c h ?_
  (simp (maxSteps := 1000000) (dsimp := false) (disch := (first | omega | (simp only [okR]; done) | (simp only [sizeR] <;> omega) | fail)) only [↓preR, postR, ↓w_join, Nat.reduceEqDiff, Nat.reduceAdd, Nat.reduceSub, Nat.reduceMul, Int.reduceNeg, Nat.reduceLT, Int.reduceToNat, Nat.reduceLeDiff, Nat.sub_zero, h0])
  exact hk
theorem tfile_c (h : Hs σ X (FsL f t dm dp nm N V nl R)) (h1 : kdV V i = 1) (hk : k (.int .i64 0) σ) : kCall Tryd.prog 28 [pp f, .int .i64 i] σ k := by
  refine f28 ?_
  (simp (maxSteps := 1000000) (dsimp := false) (disch := (first | omega | (simp only [okR]; done) | (simp only [sizeR] <;> omega) | fail)) only [↓preR, postR, ↓w_join, Nat.reduceEqDiff, Nat.reduceAdd, Nat.reduceSub, Nat.reduceMul, Int.reduceNeg, Nat.reduceLT, Int.reduceToNat, Nat.reduceLeDiff, Nat.sub_zero, F28])
  refine tkind_c h (by omega) ?_
  rw [h1]
  (simp (maxSteps := 1000000) (dsimp := false) (disch := (first | omega | (simp only [okR]; done) | (simp only [sizeR] <;> omega) | fail)) only [↓preR, postR, ↓w_join, Nat.reduceEqDiff, Nat.reduceAdd, Nat.reduceSub, Nat.reduceMul, Int.reduceNeg, Nat.reduceLT, Int.reduceToNat, Nat.reduceLeDiff, Nat.sub_zero])
  exact hk
theorem kd1 (hd : atV V i = some d) (h1 : d.kind = 1) : kdV V i = 1 := by unfold kdV; rw [hd]; exact h1
theorem tread_c (h : Hs σ X (Fs f N V nl :: R)) (hd : atV V i = some d) (h1 : d.kind = 1) (h0 : 0 ≤ at_) (hn : 0 ≤ n) (hk : ∀ σ', Hs σ' X (Fs f N V nl :: R) → k (.tuple #[.string (bs ((d.data.drop at_.toNat).take n.toNat)), .int .i64 0]) σ') :
    kCall Tryd.prog 13 [pp f, .int .i64 i, .int .i64 at_, .int .i64 n] σ k := by
  obtain ⟨t, dm, dp, nm, h2⟩ := Fs.open h
  refine f13 ?_
  (simp (maxSteps := 1000000) (dsimp := false) (disch := (first | omega | (simp only [okR]; done) | (simp only [sizeR] <;> omega) | fail)) only [↓preR, postR, ↓w_join, Nat.reduceEqDiff, Nat.reduceAdd, Nat.reduceSub, Nat.reduceMul, Int.reduceNeg, Nat.reduceLT, Int.reduceToNat, Nat.reduceLeDiff, Nat.sub_zero, F13])
  refine tfile_c h2 (kd1 hd h1) ?_
  (simp (maxSteps := 1000000) (dsimp := false) (disch := (first | omega | (simp only [okR]; done) | (simp only [sizeR] <;> omega) | fail)) only [↓preR, postR, ↓w_join, Nat.reduceEqDiff, Nat.reduceAdd, Nat.reduceSub, Nat.reduceMul, Int.reduceNeg, Nat.reduceLT, Int.reduceToNat, Nat.reduceLeDiff, Nat.sub_zero, h2.obj])
  refine eread (h2.front 1 rfl) hd h0 hn fun σ1 h3 => ?_
  (simp (maxSteps := 1000000) (dsimp := false) (disch := (first | omega | (simp only [okR]; done) | (simp only [sizeR] <;> omega) | fail)) only [↓preR, postR, ↓w_join, Nat.reduceEqDiff, Nat.reduceAdd, Nat.reduceSub, Nat.reduceMul, Int.reduceNeg, Nat.reduceLT, Int.reduceToNat, Nat.reduceLeDiff, Nat.sub_zero])
  exact hk _ (Fs.close (h3.front 1 rfl))
/-- A negative number of bytes. -/
theorem tread_neg (h : Hs σ X (Fs f N V nl :: R)) (hd : atV V i = some d) (h1 : d.kind = 1) (hn : n < 0) (hk : ∀ σ', Hs σ' X (Fs f N V nl :: R) → k (.tuple #[.string (bs []), .int .i64 1]) σ') :
    kCall Tryd.prog 13 [pp f, .int .i64 i, .int .i64 at_, .int .i64 n] σ k := by
  obtain ⟨t, dm, dp, nm, h2⟩ := Fs.open h
  refine f13 ?_
  (simp (maxSteps := 1000000) (dsimp := false) (disch := (first | omega | (simp only [okR]; done) | (simp only [sizeR] <;> omega) | fail)) only [↓preR, postR, ↓w_join, Nat.reduceEqDiff, Nat.reduceAdd, Nat.reduceSub, Nat.reduceMul, Int.reduceNeg, Nat.reduceLT, Int.reduceToNat, Nat.reduceLeDiff, Nat.sub_zero, F13])
  refine tfile_c h2 (kd1 hd h1) ?_
  (simp (maxSteps := 1000000) (dsimp := false) (disch := (first | omega | (simp only [okR]; done) | (simp only [sizeR] <;> omega) | fail)) only [↓preR, postR, ↓w_join, Nat.reduceEqDiff, Nat.reduceAdd, Nat.reduceSub, Nat.reduceMul, Int.reduceNeg, Nat.reduceLT, Int.reduceToNat, Nat.reduceLeDiff, Nat.sub_zero, h2.obj])
  refine vread_c (data := []) (h2.front 1 rfl) fun σ1 h3 => ?_
  have e : (doM (5, i, at_, n, []) V 0).1 = (0, [], 1) := by
    simp only [doM]
    rw [hd]
    have : at_ < 0 ∨ n < 0 := by omega
    simp only [this, if_true]
    rfl
  rw [e]
  (simp (maxSteps := 1000000) (dsimp := false) (disch := (first | omega | (simp only [okR]; done) | (simp only [sizeR] <;> omega) | fail)) only [↓preR, postR, ↓w_join, Nat.reduceEqDiff, Nat.reduceAdd, Nat.reduceSub, Nat.reduceMul, Int.reduceNeg, Nat.reduceLT, Int.reduceToNat, Nat.reduceLeDiff, Nat.sub_zero])
  exact hk _ (Fs.close (h3.front 1 rfl))
abbrev wrV (V : TV) (i : Int) (d : NV) (at_ : Int) (data : List UInt8) : TV := putV V i (some ⟨d.kind, d.names, d.users, dataW d.data at_.toNat data.length data, hasW d.has at_.toNat data.length⟩)
theorem twrite_c (h : Hs σ X (Fs f N V nl :: R)) (hd : atV V i = some d) (h1 : d.kind = 1) (h0 : 0 ≤ at_) (hat : at_ ≤ 9223372036854775807) (hdl : data.length ≤ 1000000000) (hM : IsMany d.has (N - used V) at_.toNat data.length data.length)
    (hk : ∀ σ', Hs σ' X (Fs f N (wrV V i d at_ data) nl :: R) → k (.tuple #[.int .i64 data.length, .int .i64 0]) σ') :
    kCall Tryd.prog 27 [pp f, .int .i64 i, .int .i64 at_, .string (bs data)] σ k := by
  obtain ⟨t, dm, dp, nm, h2⟩ := Fs.open h
  refine f27 ?_
  (simp (maxSteps := 1000000) (dsimp := false) (disch := (first | omega | (simp only [okR]; done) | (simp only [sizeR] <;> omega) | fail)) only [↓preR, postR, ↓w_join, Nat.reduceEqDiff, Nat.reduceAdd, Nat.reduceSub, Nat.reduceMul, Int.reduceNeg, Nat.reduceLT, Int.reduceToNat, Nat.reduceLeDiff, Nat.sub_zero, F27])
  refine tfile_c h2 (kd1 hd h1) ?_
  (simp (maxSteps := 1000000) (dsimp := false) (disch := (first | omega | (simp only [okR]; done) | (simp only [sizeR] <;> omega) | fail)) only [↓preR, postR, ↓w_join, Nat.reduceEqDiff, Nat.reduceAdd, Nat.reduceSub, Nat.reduceMul, Int.reduceNeg, Nat.reduceLT, Int.reduceToNat, Nat.reduceLeDiff, Nat.sub_zero, h2.obj])
  refine ewrite (m := data.length) (h2.front 1 rfl) hat hdl (fun d' hd' _ _ => ?_) (do_all (n := 0) hd h0) fun σ1 h3 => ?_
  · obtain rfl : d = d' := Option.some.inj (hd.symm.trans hd')
    exact hM
  (simp (maxSteps := 1000000) (dsimp := false) (disch := (first | omega | (simp only [okR]; done) | (simp only [sizeR] <;> omega) | fail)) only [↓preR, postR, ↓w_join, Nat.reduceEqDiff, Nat.reduceAdd, Nat.reduceSub, Nat.reduceMul, Int.reduceNeg, Nat.reduceLT, Int.reduceToNat, Nat.reduceLeDiff, Nat.sub_zero])
  exact hk _ (Fs.close (h3.front 1 rfl))
theorem thold_c (h : Hs σ X (Fs f N V nl :: R)) (hb : ∀ d, atV V i = some d → -1000000 ≤ d.users ∧ d.users ≤ 1000000) (hr : doM (3, i, 0, 0, []) V 0 = ((a, s, e), V')) (hk : ∀ σ', Hs σ' X (Fs f N V' nl :: R) → k (.int .i64 e) σ') :
    kCall Tryd.prog 24 [pp f, .int .i64 i] σ k := by
  obtain ⟨t, dm, dp, nm, h2⟩ := Fs.open h
  refine f24 ?_
  (simp (maxSteps := 1000000) (dsimp := false) (disch := (first | omega | (simp only [okR]; done) | (simp only [sizeR] <;> omega) | fail)) only [↓preR, postR, ↓w_join, Nat.reduceEqDiff, Nat.reduceAdd, Nat.reduceSub, Nat.reduceMul, Int.reduceNeg, Nat.reduceLT, Int.reduceToNat, Nat.reduceLeDiff, Nat.sub_zero, F24, h2.obj])
  refine vhold_c (data := []) (n := 0) (at_ := 0) (h2.front 1 rfl) hb fun σ1 h3 => ?_
  rw [hr] at h3 ⊢
  (try simp (maxSteps := 1000000) (dsimp := false) (disch := (first | omega | (simp only [okR]; done) | (simp only [sizeR] <;> omega) | fail)) only [↓preR, postR, ↓w_join, Nat.reduceEqDiff, Nat.reduceAdd, Nat.reduceSub, Nat.reduceMul, Int.reduceNeg, Nat.reduceLT, Int.reduceToNat, Nat.reduceLeDiff, Nat.sub_zero])
  exact hk _ (Fs.close (h3.front 1 rfl))
theorem tloose_c (h : Hs σ X (Fs f N V nl :: R)) (hb : ∀ d, atV V i = some d → -1000000 ≤ d.users ∧ d.users ≤ 1000000) (hr : doM (4, i, 0, 0, []) V 0 = ((a, s, e), V')) (hk : ∀ σ', Hs σ' X (Fs f N V' nl :: R) → k (.int .i64 e) σ') :
    kCall Tryd.prog 30 [pp f, .int .i64 i] σ k := by
  obtain ⟨t, dm, dp, nm, h2⟩ := Fs.open h
  refine f30 ?_
  (simp (maxSteps := 1000000) (dsimp := false) (disch := (first | omega | (simp only [okR]; done) | (simp only [sizeR] <;> omega) | fail)) only [↓preR, postR, ↓w_join, Nat.reduceEqDiff, Nat.reduceAdd, Nat.reduceSub, Nat.reduceMul, Int.reduceNeg, Nat.reduceLT, Int.reduceToNat, Nat.reduceLeDiff, Nat.sub_zero, F30, h2.obj])
  refine vloose_c (data := []) (n := 0) (at_ := 0) (h2.front 1 rfl) hb fun σ1 h3 => ?_
  rw [hr] at h3 ⊢
  (try simp (maxSteps := 1000000) (dsimp := false) (disch := (first | omega | (simp only [okR]; done) | (simp only [sizeR] <;> omega) | fail)) only [↓preR, postR, ↓w_join, Nat.reduceEqDiff, Nat.reduceAdd, Nat.reduceSub, Nat.reduceMul, Int.reduceNeg, Nat.reduceLT, Int.reduceToNat, Nat.reduceLeDiff, Nat.sub_zero])
  exact hk _ (Fs.close (h3.front 1 rfl))
theorem tfreen_c (h : Hs σ X (Fs f N V nl :: R)) (hk : used V ≤ N → k (.tuple #[.int .i64 (V.countP (·.isNone)), .int .i64 ((N - used V : Nat) : Int)]) σ) : kCall Tryd.prog 16 [pp f] σ k := by
  obtain ⟨t, dm, dp, nm, h2⟩ := Fs.open h
  refine f16 ?_
  (simp (maxSteps := 1000000) (dsimp := false) (disch := (first | omega | (simp only [okR]; done) | (simp only [sizeR] <;> omega) | fail)) only [↓preR, postR, ↓w_join, Nat.reduceEqDiff, Nat.reduceAdd, Nat.reduceSub, Nat.reduceMul, Int.reduceNeg, Nat.reduceLT, Int.reduceToNat, Nat.reduceLeDiff, Nat.sub_zero, F16, h2.obj])
  refine vfree_c (h2.front 1 rfl) fun hu => ?_
  (simp (maxSteps := 1000000) (dsimp := false) (disch := (first | omega | (simp only [okR]; done) | (simp only [sizeR] <;> omega) | fail)) only [↓preR, postR, ↓w_join, Nat.reduceEqDiff, Nat.reduceAdd, Nat.reduceSub, Nat.reduceMul, Int.reduceNeg, Nat.reduceLT, Int.reduceToNat, Nat.reduceLeDiff, Nat.sub_zero])
  exact hk hu
theorem tsize_c (h : Hs σ X (FsL f t dm dp nm N V nl R)) (hd : atV V i = some d) (hk : k (.int .i64 d.data.length) σ) : kCall Tryd.prog 26 [pp t, .int .i64 i] σ k :=
  vsize_c (h.front 1 rfl) (by rw [hd]; exact hk)
end
end Go.Proofs.YtmlceloabmkjmaaDoor
