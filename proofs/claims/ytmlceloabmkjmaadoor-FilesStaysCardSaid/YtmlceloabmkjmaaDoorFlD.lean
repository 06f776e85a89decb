/- Open files: Open, Read, Write, Close. Conditions: as each theorem says. -/
import Derived.Test.YtmlceloabmkjmaaDoorFlC
namespace Go.Proofs.YtmlceloabmkjmaaDoor
open E Go.Lib
set_option linter.unusedVariables false
set_option linter.unusedSimpArgs false
set_option maxHeartbeats 1000000
set_option maxRecDepth 20000

abbrev An (fl m r : Int) : Prop := binV .and (.int .i64 fl) (.int .i64 m) = some (.int .i64 r)
section
variable {σ σ' : AS} {X : Ce} {R : List Ck} {k : Value → AS → Prop} {f t dm dp nm N x : Nat} {V V1 V2 V' : TV} {nl : List (Str × Value)} {i a b e n at_ fl : Int} {s s2 data : List UInt8} {d : NV}
/-- A file that is made. -/
theorem find_new (h : Hs σ X (Fs f N V [] :: R)) (h1 : kdV V 1 = 2) (h8 : An fl 8 8) (hl : (((atV V 1).map (·.names)).getD 0) ≠ 0)
    (hr1 : doM (0, 0, 0, 1, []) V 0 = ((a, s, 0), V1)) (hb : ∀ d, atV V1 a = some d → -1000000 ≤ d.names ∧ d.names ≤ 1000000) (hr2 : doM (1, a, 0, 0, []) V1 0 = ((e, s2, 0), V2)) (hd : atV V2 a = some d)
    (hk : ∀ σ', Hs σ' X (Fs f N V2 [(pthA, .int .i64 a)] :: R) → k (.tuple #[.int .i64 a, .int .i64 0]) σ') :
    kCall Tryd.prog 21 [pp f, .int .i64 1, .string (bs pthA), .int .i64 fl] σ k := by
  refine f21 ?_
  (simp (maxSteps := 1000000) (dsimp := false) (disch := (first | omega | (simp only [okR]; done) | (simp only [sizeR] <;> omega) | fail)) only [↓preR, postR, ↓w_join, Nat.reduceEqDiff, Nat.reduceAdd, Nat.reduceSub, Nat.reduceMul, Int.reduceNeg, Nat.reduceLT, Int.reduceToNat, Nat.reduceLeDiff, Nat.sub_zero, F21])
  refine walk_c (a := 0) (e := 23) h ⟨h1, .inl ⟨rfl, rfl, rfl⟩⟩ fun σ1 h2 => ?_
  (simp (maxSteps := 1000000) (dsimp := false) (disch := (first | omega | (simp only [okR]; done) | (simp only [sizeR] <;> omega) | fail)) only [↓preR, postR, ↓w_join, Nat.reduceEqDiff, Nat.reduceAdd, Nat.reduceSub, Nat.reduceMul, Int.reduceNeg, Nat.reduceLT, Int.reduceToNat, Nat.reduceLeDiff, Nat.sub_zero, h8])
  obtain ⟨t, dm, dp, nm, h3⟩ := Fs.open h2
  refine tmade_c h3 h1 hl hr1 hb hr2 hd fun σ2 h4 => ?_
  (simp (maxSteps := 1000000) (dsimp := false) (disch := (first | omega | (simp only [okR]; done) | (simp only [sizeR] <;> omega) | fail)) only [↓preR, postR, ↓w_join, Nat.reduceEqDiff, Nat.reduceAdd, Nat.reduceSub, Nat.reduceMul, Int.reduceNeg, Nat.reduceLT, Int.reduceToNat, Nat.reduceLeDiff, Nat.sub_zero])
  exact hk _ (Fs.close h4)
theorem part_old (h1 : kdV V 1 = 2) (h2 : kdV V a = 1) : PartR V [(pthA, .int .i64 a)] a 0 := ⟨h1, .inr ⟨by kernel_rfl, by omega, rfl⟩⟩
/-- A file that is there. -/
theorem find_old {r8 r32 : Int} (h : Hs σ X (Fs f N V [(pthA, .int .i64 a)] :: R)) (h1 : kdV V 1 = 2) (h2 : kdV V a = 1) (h8 : An fl 8 r8) (h32 : An fl 32 r32) (hx : r8 = 0 ∨ r32 = 0)
    (hk : ∀ σ', Hs σ' X (Fs f N V [(pthA, .int .i64 a)] :: R) → k (.tuple #[.int .i64 a, .int .i64 0]) σ') :
    kCall Tryd.prog 21 [pp f, .int .i64 1, .string (bs pthA), .int .i64 fl] σ k := by
  refine f21 ?_
  (simp (maxSteps := 1000000) (dsimp := false) (disch := (first | omega | (simp only [okR]; done) | (simp only [sizeR] <;> omega) | fail)) only [↓preR, postR, ↓w_join, Nat.reduceEqDiff, Nat.reduceAdd, Nat.reduceSub, Nat.reduceMul, Int.reduceNeg, Nat.reduceLT, Int.reduceToNat, Nat.reduceLeDiff, Nat.sub_zero, F21])
  refine walk_c (a := a) (e := 0) h (part_old h1 h2) fun σ1 h3 => ?_
  by_cases e8 : r8 = 0
  · subst e8
    (simp (maxSteps := 1000000) (dsimp := false) (disch := (first | omega | (simp only [okR]; done) | (simp only [sizeR] <;> omega) | fail)) only [↓preR, postR, ↓w_join, Nat.reduceEqDiff, Nat.reduceAdd, Nat.reduceSub, Nat.reduceMul, Int.reduceNeg, Nat.reduceLT, Int.reduceToNat, Nat.reduceLeDiff, Nat.sub_zero, h8])
    exact hk _ h3
  · have e32 : r32 = 0 := by omega
    subst e32
    (simp (maxSteps := 1000000) (dsimp := false) (disch := (first | omega | (simp only [okR]; done) | (simp only [sizeR] <;> omega) | fail)) only [↓preR, postR, ↓w_join, Nat.reduceEqDiff, Nat.reduceAdd, Nat.reduceSub, Nat.reduceMul, Int.reduceNeg, Nat.reduceLT, Int.reduceToNat, Nat.reduceLeDiff, Nat.sub_zero, h8, h32, e8])
    exact hk _ h3
theorem find_there {r8 r32 : Int} (h : Hs σ X (Fs f N V [(pthA, .int .i64 a)] :: R)) (h1 : kdV V 1 = 2) (h2 : kdV V a = 1) (h8 : An fl 8 r8) (h32 : An fl 32 r32) (hx : r8 ≠ 0) (hy : r32 ≠ 0)
    (hk : ∀ σ', Hs σ' X (Fs f N V [(pthA, .int .i64 a)] :: R) → k (.tuple #[.int .i64 0, .int .i64 22]) σ') :
    kCall Tryd.prog 21 [pp f, .int .i64 1, .string (bs pthA), .int .i64 fl] σ k := by
  refine f21 ?_
  (simp (maxSteps := 1000000) (dsimp := false) (disch := (first | omega | (simp only [okR]; done) | (simp only [sizeR] <;> omega) | fail)) only [↓preR, postR, ↓w_join, Nat.reduceEqDiff, Nat.reduceAdd, Nat.reduceSub, Nat.reduceMul, Int.reduceNeg, Nat.reduceLT, Int.reduceToNat, Nat.reduceLeDiff, Nat.sub_zero, F21])
  refine walk_c (a := a) (e := 0) h (part_old h1 h2) fun σ1 h3 => ?_
  (simp (maxSteps := 1000000) (dsimp := false) (disch := (first | omega | (simp only [okR]; done) | (simp only [sizeR] <;> omega) | fail)) only [↓preR, postR, ↓w_join, Nat.reduceEqDiff, Nat.reduceAdd, Nat.reduceSub, Nat.reduceMul, Int.reduceNeg, Nat.reduceLT, Int.reduceToNat, Nat.reduceLeDiff, Nat.sub_zero, h8, h32, hx, hy])
  exact hk _ h3
/-- Open, once its node is found. -/
theorem open_c {r3 : Int} (h3 : An fl 3 r3) (hr3 : r3 ≠ 0) (h16 : An fl 16 0) (hf0 : 0 ≤ fl) (hf1 : fl < 64) (h1 : kdV V' i = 1) (hb : ∀ d, atV V' i = some d → -1000000 ≤ d.users ∧ d.users ≤ 1000000) (hr : doM (3, i, 0, 0, []) V' 0 = ((a, s, e), V2))
    (hfind : ∀ k' : Value → AS → Prop, (∀ σ', Hs σ' X (Fs f N V' nl :: R) → k' (.tuple #[.int .i64 i, .int .i64 0]) σ') → kCall Tryd.prog 21 [pp f, .int .i64 1, .string (bs pthA), .int .i64 fl] σ k')
    (hk : ∀ x σ', Hs σ' X (FlC x f i 0 fl false :: Fs f N V2 nl :: R) → k (.tuple #[pp x, .int .i64 0]) σ') :
    kCall Tryd.prog 9 [pp f, .int .i64 1, .string (bs pthA), .int .i64 fl] σ k := by
  refine f9 ?_
  (simp (maxSteps := 1000000) (dsimp := false) (disch := (first | omega | (simp only [okR]; done) | (simp only [sizeR] <;> omega) | fail)) only [↓preR, postR, ↓w_join, Nat.reduceEqDiff, Nat.reduceAdd, Nat.reduceSub, Nat.reduceMul, Int.reduceNeg, Nat.reduceLT, Int.reduceToNat, Nat.reduceLeDiff, Nat.sub_zero, F9, h3, hr3])
  refine hfind _ fun σ1 g1 => ?_
  obtain ⟨t, dm, dp, nm, g2⟩ := Fs.open g1
  (simp (maxSteps := 1000000) (dsimp := false) (disch := (first | omega | (simp only [okR]; done) | (simp only [sizeR] <;> omega) | fail)) only [↓preR, postR, ↓w_join, Nat.reduceEqDiff, Nat.reduceAdd, Nat.reduceSub, Nat.reduceMul, Int.reduceNeg, Nat.reduceLT, Int.reduceToNat, Nat.reduceLeDiff, Nat.sub_zero, g2.obj])
  refine kd_c g2 ?_
  rw [h1]
  (simp (maxSteps := 1000000) (dsimp := false) (disch := (first | omega | (simp only [okR]; done) | (simp only [sizeR] <;> omega) | fail)) only [↓preR, postR, ↓w_join, Nat.reduceEqDiff, Nat.reduceAdd, Nat.reduceSub, Nat.reduceMul, Int.reduceNeg, Nat.reduceLT, Int.reduceToNat, Nat.reduceLeDiff, Nat.sub_zero, h16])
  refine thold_c g1 hb hr fun σ2 g3 => ?_
  (simp (maxSteps := 1000000) (dsimp := false) (disch := (first | omega | (simp only [okR]; done) | (simp only [sizeR] <;> omega) | fail)) only [↓preR, postR, ↓w_join, Nat.reduceEqDiff, Nat.reduceAdd, Nat.reduceSub, Nat.reduceMul, Int.reduceNeg, Nat.reduceLT, Int.reduceToNat, Nat.reduceLeDiff, Nat.sub_zero])
  exact hk _ _ g3.new
theorem open_not {r3 : Int} (h3 : An fl 3 r3) (hr3 : r3 ≠ 0) (hf0 : 0 ≤ fl) (hf1 : fl < 64) (he : e ≠ 0)
    (hfind : ∀ k' : Value → AS → Prop, (∀ σ', Hs σ' X (Fs f N V' nl :: R) → k' (.tuple #[.int .i64 i, .int .i64 e]) σ') → kCall Tryd.prog 21 [pp f, .int .i64 1, .string (bs pthA), .int .i64 fl] σ k')
    (hk : ∀ σ', Hs σ' X (Fs f N V' nl :: R) → k (.tuple #[.pointer none, .int .i64 e]) σ') :
    kCall Tryd.prog 9 [pp f, .int .i64 1, .string (bs pthA), .int .i64 fl] σ k := by
  refine f9 ?_
  (simp (maxSteps := 1000000) (dsimp := false) (disch := (first | omega | (simp only [okR]; done) | (simp only [sizeR] <;> omega) | fail)) only [↓preR, postR, ↓w_join, Nat.reduceEqDiff, Nat.reduceAdd, Nat.reduceSub, Nat.reduceMul, Int.reduceNeg, Nat.reduceLT, Int.reduceToNat, Nat.reduceLeDiff, Nat.sub_zero, F9, h3, hr3])
  refine hfind _ fun σ1 g1 => ?_
  (simp (maxSteps := 1000000) (dsimp := false) (disch := (first | omega | (simp only [okR]; done) | (simp only [sizeR] <;> omega) | fail)) only [↓preR, postR, ↓w_join, Nat.reduceEqDiff, Nat.reduceAdd, Nat.reduceSub, Nat.reduceMul, Int.reduceNeg, Nat.reduceLT, Int.reduceToNat, Nat.reduceLeDiff, Nat.sub_zero, he])
  exact hk _ g1
theorem may_c {m r : Int} {cl : Bool} (h : Hs σ X (FlC x f i at_ fl cl :: R)) (hm : An fl m r) (hk : k (.int .i64 (if cl then 28 else if r = 0 then 33 else 0)) σ) :
    kCall Tryd.prog 25 [pp x, .int .i64 m] σ k := by
  refine f25 ?_
  cases cl
  · by_cases hr : r = 0
    · subst hr
      (simp (maxSteps := 1000000) (dsimp := false) (disch := (first | omega | (simp only [okR]; done) | (simp only [sizeR] <;> omega) | fail)) only [↓preR, postR, ↓w_join, Nat.reduceEqDiff, Nat.reduceAdd, Nat.reduceSub, Nat.reduceMul, Int.reduceNeg, Nat.reduceLT, Int.reduceToNat, Nat.reduceLeDiff, Nat.sub_zero, F25, h.obj, hm])
      exact hk
    · (simp (maxSteps := 1000000) (dsimp := false) (disch := (first | omega | (simp only [okR]; done) | (simp only [sizeR] <;> omega) | fail)) only [↓preR, postR, ↓w_join, Nat.reduceEqDiff, Nat.reduceAdd, Nat.reduceSub, Nat.reduceMul, Int.reduceNeg, Nat.reduceLT, Int.reduceToNat, Nat.reduceLeDiff, Nat.sub_zero, F25, h.obj, hm, hr])
      simp only [hr, if_false] at hk
      exact hk
  · (simp (maxSteps := 1000000) (dsimp := false) (disch := (first | omega | (simp only [okR]; done) | (simp only [sizeR] <;> omega) | fail)) only [↓preR, postR, ↓w_join, Nat.reduceEqDiff, Nat.reduceAdd, Nat.reduceSub, Nat.reduceMul, Int.reduceNeg, Nat.reduceLT, Int.reduceToNat, Nat.reduceLeDiff, Nat.sub_zero, F25, h.obj])
    exact hk
/-- What a file is told to read. -/
theorem fread_c {r : Int} (h : Hs σ X (FlC x f i at_ fl false :: Fs f N V nl :: R)) (hm : An fl 1 r) (hr : r ≠ 0) (hd : atV V i = some d) (h1 : d.kind = 1) (h0 : 0 ≤ at_) (hat : at_ ≤ 1000000) (hdl : d.data.length ≤ 1000000) (hn : 0 ≤ n)
    (hk : ∀ σ', Hs σ' X (FlC x f i (at_ + ((d.data.drop at_.toNat).take n.toNat).length) fl false :: Fs f N V nl :: R) → k (.tuple #[.string (bs ((d.data.drop at_.toNat).take n.toNat)), .int .i64 0]) σ') :
    kCall Tryd.prog 11 [pp x, .int .i64 n] σ k := by
  refine f11 ?_
  (simp (maxSteps := 1000000) (dsimp := false) (disch := (first | omega | (simp only [okR]; done) | (simp only [sizeR] <;> omega) | fail)) only [↓preR, postR, ↓w_join, Nat.reduceEqDiff, Nat.reduceAdd, Nat.reduceSub, Nat.reduceMul, Int.reduceNeg, Nat.reduceLT, Int.reduceToNat, Nat.reduceLeDiff, Nat.sub_zero, F11])
  refine may_c h hm ?_
  rw [if_neg (by decide), if_neg hr]
  (simp (maxSteps := 1000000) (dsimp := false) (disch := (first | omega | (simp only [okR]; done) | (simp only [sizeR] <;> omega) | fail)) only [↓preR, postR, ↓w_join, Nat.reduceEqDiff, Nat.reduceAdd, Nat.reduceSub, Nat.reduceMul, Int.reduceNeg, Nat.reduceLT, Int.reduceToNat, Nat.reduceLeDiff, Nat.sub_zero, h.obj])
  refine tread_c h.swap hd h1 h0 hn fun σ1 h2 => ?_
  have hl : ((d.data.drop at_.toNat).take n.toNat).length ≤ 1000000 := by simp; omega
  (simp (maxSteps := 1000000) (dsimp := false) (disch := (first | omega | (simp only [okR]; done) | (simp only [sizeR] <;> omega) | fail)) only [↓preR, postR, ↓w_join, Nat.reduceEqDiff, Nat.reduceAdd, Nat.reduceSub, Nat.reduceMul, Int.reduceNeg, Nat.reduceLT, Int.reduceToNat, Nat.reduceLeDiff, Nat.sub_zero, h2.obj1])
  exact hk _ h2.put1.swap
theorem fread_neg {r : Int} (h : Hs σ X (FlC x f i at_ fl false :: Fs f N V nl :: R)) (hm : An fl 1 r) (hr : r ≠ 0) (hd : atV V i = some d) (h1 : d.kind = 1) (h0 : 0 ≤ at_) (hat : at_ ≤ 1000000) (hn : n < 0)
    (hk : ∀ σ', Hs σ' X (FlC x f i at_ fl false :: Fs f N V nl :: R) → k (.tuple #[.string (bs []), .int .i64 1]) σ') :
    kCall Tryd.prog 11 [pp x, .int .i64 n] σ k := by
  refine f11 ?_
  (simp (maxSteps := 1000000) (dsimp := false) (disch := (first | omega | (simp only [okR]; done) | (simp only [sizeR] <;> omega) | fail)) only [↓preR, postR, ↓w_join, Nat.reduceEqDiff, Nat.reduceAdd, Nat.reduceSub, Nat.reduceMul, Int.reduceNeg, Nat.reduceLT, Int.reduceToNat, Nat.reduceLeDiff, Nat.sub_zero, F11])
  refine may_c h hm ?_
  rw [if_neg (by decide), if_neg hr]
  (simp (maxSteps := 1000000) (dsimp := false) (disch := (first | omega | (simp only [okR]; done) | (simp only [sizeR] <;> omega) | fail)) only [↓preR, postR, ↓w_join, Nat.reduceEqDiff, Nat.reduceAdd, Nat.reduceSub, Nat.reduceMul, Int.reduceNeg, Nat.reduceLT, Int.reduceToNat, Nat.reduceLeDiff, Nat.sub_zero, h.obj])
  refine tread_neg h.swap hd h1 hn fun σ1 h2 => ?_
  have e : at_ + ((0 : Nat) : Int) = at_ := by omega
  (simp (maxSteps := 1000000) (dsimp := false) (disch := (first | omega | (simp only [okR]; done) | (simp only [sizeR] <;> omega) | fail)) only [↓preR, postR, ↓w_join, Nat.reduceEqDiff, Nat.reduceAdd, Nat.reduceSub, Nat.reduceMul, Int.reduceNeg, Nat.reduceLT, Int.reduceToNat, Nat.reduceLeDiff, Nat.sub_zero, h2.obj1, e])
  exact hk _ h2.put1.swap
theorem fread_closed (h : Hs σ X (FlC x f i at_ fl true :: R)) {r : Int} (hm : An fl 1 r) (hk : k (.tuple #[.string (bs []), .int .i64 28]) σ) : kCall Tryd.prog 11 [pp x, .int .i64 n] σ k := by
  refine f11 ?_
  (simp (maxSteps := 1000000) (dsimp := false) (disch := (first | omega | (simp only [okR]; done) | (simp only [sizeR] <;> omega) | fail)) only [↓preR, postR, ↓w_join, Nat.reduceEqDiff, Nat.reduceAdd, Nat.reduceSub, Nat.reduceMul, Int.reduceNeg, Nat.reduceLT, Int.reduceToNat, Nat.reduceLeDiff, Nat.sub_zero, F11])
  refine may_c h hm ?_
  rw [if_pos rfl]
  (simp (maxSteps := 1000000) (dsimp := false) (disch := (first | omega | (simp only [okR]; done) | (simp only [sizeR] <;> omega) | fail)) only [↓preR, postR, ↓w_join, Nat.reduceEqDiff, Nat.reduceAdd, Nat.reduceSub, Nat.reduceMul, Int.reduceNeg, Nat.reduceLT, Int.reduceToNat, Nat.reduceLeDiff, Nat.sub_zero])
  exact hk
/-- What is written to a file that is opened to Append, or not. -/
theorem fwrite_c {r r4 : Int} {pos : Nat} (h : Hs σ X (FlC x f i at_ fl false :: Fs f N V nl :: R)) (hm : An fl 2 r) (hr : r ≠ 0) (h4 : An fl 4 r4) (hp : (pos : Int) = if r4 = 0 then at_ else (d.data.length : Int)) (hd : atV V i = some d) (h1 : d.kind = 1)
    (hat : pos ≤ 1000000) (hdl : data.length ≤ 1000000) (hM : IsMany d.has (N - used V) pos data.length data.length)
    (hk : ∀ σ', Hs σ' X (FlC x f i ((pos : Int) + data.length) fl false :: Fs f N (wrV V i d (pos : Int) data) nl :: R) → k (.tuple #[.int .i64 data.length, .int .i64 0]) σ') :
    kCall Tryd.prog 10 [pp x, .string (bs data)] σ k := by
  refine f10 ?_
  (simp (maxSteps := 1000000) (dsimp := false) (disch := (first | omega | (simp only [okR]; done) | (simp only [sizeR] <;> omega) | fail)) only [↓preR, postR, ↓w_join, Nat.reduceEqDiff, Nat.reduceAdd, Nat.reduceSub, Nat.reduceMul, Int.reduceNeg, Nat.reduceLT, Int.reduceToNat, Nat.reduceLeDiff, Nat.sub_zero, F10])
  refine may_c h hm ?_
  rw [if_neg (by decide), if_neg hr]
  have epos : ((pos : Int)).toNat = pos := by omega
  by_cases e4 : r4 = 0
  · rw [if_pos e4] at hp
    subst hp
    subst e4
    (simp (maxSteps := 1000000) (dsimp := false) (disch := (first | omega | (simp only [okR]; done) | (simp only [sizeR] <;> omega) | fail)) only [↓preR, postR, ↓w_join, Nat.reduceEqDiff, Nat.reduceAdd, Nat.reduceSub, Nat.reduceMul, Int.reduceNeg, Nat.reduceLT, Int.reduceToNat, Nat.reduceLeDiff, Nat.sub_zero, h.obj, h4])
    refine twrite_c h.swap hd h1 (by omega) (by omega) (by omega) (by rw [epos]; exact hM) fun σ1 h2 => ?_
    (simp (maxSteps := 1000000) (dsimp := false) (disch := (first | omega | (simp only [okR]; done) | (simp only [sizeR] <;> omega) | fail)) only [↓preR, postR, ↓w_join, Nat.reduceEqDiff, Nat.reduceAdd, Nat.reduceSub, Nat.reduceMul, Int.reduceNeg, Nat.reduceLT, Int.reduceToNat, Nat.reduceLeDiff, Nat.sub_zero, h2.obj1])
    exact hk _ h2.put1.swap
  · rw [if_neg e4] at hp
    obtain ⟨t, dm, dp, nm, g1⟩ := Fs.open h.swap
    (simp (maxSteps := 1000000) (dsimp := false) (disch := (first | omega | (simp only [okR]; done) | (simp only [sizeR] <;> omega) | fail)) only [↓preR, postR, ↓w_join, Nat.reduceEqDiff, Nat.reduceAdd, Nat.reduceSub, Nat.reduceMul, Int.reduceNeg, Nat.reduceLT, Int.reduceToNat, Nat.reduceLeDiff, Nat.sub_zero, h.obj, h4, e4, g1.obj])
    refine tsize_c g1 hd ?_
    rw [← hp]
    have h2 := h.put (cs' := [pp f, .int .i64 i, .int .i64 pos, .int .i64 fl, .bool false])
    (simp (maxSteps := 1000000) (dsimp := false) (disch := (first | omega | (simp only [okR]; done) | (simp only [sizeR] <;> omega) | fail)) only [↓preR, postR, ↓w_join, Nat.reduceEqDiff, Nat.reduceAdd, Nat.reduceSub, Nat.reduceMul, Int.reduceNeg, Nat.reduceLT, Int.reduceToNat, Nat.reduceLeDiff, Nat.sub_zero, h.obj, h2.obj])
    refine twrite_c h2.swap hd h1 (by omega) (by omega) (by omega) (by rw [epos]; exact hM) fun σ1 h3 => ?_
    (simp (maxSteps := 1000000) (dsimp := false) (disch := (first | omega | (simp only [okR]; done) | (simp only [sizeR] <;> omega) | fail)) only [↓preR, postR, ↓w_join, Nat.reduceEqDiff, Nat.reduceAdd, Nat.reduceSub, Nat.reduceMul, Int.reduceNeg, Nat.reduceLT, Int.reduceToNat, Nat.reduceLeDiff, Nat.sub_zero, h3.obj1])
    exact hk _ h3.put1.swap
theorem fclose_c (h : Hs σ X (FlC x f i at_ fl false :: Fs f N V nl :: R)) (hb : ∀ d, atV V i = some d → -1000000 ≤ d.users ∧ d.users ≤ 1000000) (hr : doM (4, i, 0, 0, []) V 0 = ((a, s, e), V'))
    (hk : ∀ σ', Hs σ' X (FlC x f i at_ fl true :: Fs f N V' nl :: R) → k (.int .i64 e) σ') : kCall Tryd.prog 15 [pp x] σ k := by
  refine f15 ?_
  have h2 := h.put (cs' := [pp f, .int .i64 i, .int .i64 at_, .int .i64 fl, .bool true])
  (simp (maxSteps := 1000000) (dsimp := false) (disch := (first | omega | (simp only [okR]; done) | (simp only [sizeR] <;> omega) | fail)) only [↓preR, postR, ↓w_join, Nat.reduceEqDiff, Nat.reduceAdd, Nat.reduceSub, Nat.reduceMul, Int.reduceNeg, Nat.reduceLT, Int.reduceToNat, Nat.reduceLeDiff, Nat.sub_zero, F15, h.obj, h2.obj])
  refine tloose_c h2.swap hb hr fun σ1 h3 => ?_
  (try simp (maxSteps := 1000000) (dsimp := false) (disch := (first | omega | (simp only [okR]; done) | (simp only [sizeR] <;> omega) | fail)) only [↓preR, postR, ↓w_join, Nat.reduceEqDiff, Nat.reduceAdd, Nat.reduceSub, Nat.reduceMul, Int.reduceNeg, Nat.reduceLT, Int.reduceToNat, Nat.reduceLeDiff, Nat.sub_zero])
  exact hk _ h3.swap
theorem fclose_closed (h : Hs σ X (FlC x f i at_ fl true :: R)) (hk : k (.int .i64 28) σ) : kCall Tryd.prog 15 [pp x] σ k := by
  refine f15 ?_
  (simp (maxSteps := 1000000) (dsimp := false) (disch := (first | omega | (simp only [okR]; done) | (simp only [sizeR] <;> omega) | fail)) only [↓preR, postR, ↓w_join, Nat.reduceEqDiff, Nat.reduceAdd, Nat.reduceSub, Nat.reduceMul, Int.reduceNeg, Nat.reduceLT, Int.reduceToNat, Nat.reduceLeDiff, Nat.sub_zero, F15, h.obj])
  exact hk
theorem fat_c {cl : Bool} (h : Hs σ X (FlC x f i at_ fl cl :: R)) (hk : k (.int .i64 at_) σ) : kCall Tryd.prog 12 [pp x] σ k := by
  refine f12 ?_
  (simp (maxSteps := 1000000) (dsimp := false) (disch := (first | omega | (simp only [okR]; done) | (simp only [sizeR] <;> omega) | fail)) only [↓preR, postR, ↓w_join, Nat.reduceEqDiff, Nat.reduceAdd, Nat.reduceSub, Nat.reduceMul, Int.reduceNeg, Nat.reduceLT, Int.reduceToNat, Nat.reduceLeDiff, Nat.sub_zero, F12, h.obj])
  exact hk
theorem fnode_c {cl : Bool} (h : Hs σ X (FlC x f i at_ fl cl :: R)) (hk : k (.int .i64 i) σ) : kCall Tryd.prog 14 [pp x] σ k := by
  refine f14 ?_
  (simp (maxSteps := 1000000) (dsimp := false) (disch := (first | omega | (simp only [okR]; done) | (simp only [sizeR] <;> omega) | fail)) only [↓preR, postR, ↓w_join, Nat.reduceEqDiff, Nat.reduceAdd, Nat.reduceSub, Nat.reduceMul, Int.reduceNeg, Nat.reduceLT, Int.reduceToNat, Nat.reduceLeDiff, Nat.sub_zero, F14, h.obj])
  exact hk
end
end Go.Proofs.YtmlceloabmkjmaaDoor
