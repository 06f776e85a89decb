/- Open files: the chapter's examples; a nil tree. Conditions: none. -/
import Derived.Test.YtmlceloabmkjmaaDoorFlD
namespace Go.Proofs.YtmlceloabmkjmaaDoor
open E Go.Lib
set_option linter.unusedVariables false
set_option linter.unusedSimpArgs false
set_option maxHeartbeats 1000000
set_option maxRecDepth 20000

abbrev rtV : NV := ⟨2, 1, 0, [], rep64⟩
abbrev fV (nm us : Int) (s : List UInt8) (hs : List Bool) : NV := ⟨1, nm, us, s, hs⟩
abbrev tre (o : Option NV) (n : Nat) : TV := some rtV :: o :: List.replicate n none
section
variable {σ σ' : AS} {X : Ce} {R : List Ck} {k : Value → AS → Prop} {f N x n : Nat} {nl : List (Str × Value)} {i a b e at_ fl : Int} {s s2 data t : List UInt8} {d : NV} {V V' : TV}
theorem fread_e {r m : Int} (h : Hs σ X (FlC x f i at_ fl false :: Fs f N V nl :: R)) (hm : An fl 1 r) (hr : r ≠ 0) (hd : atV V i = some d) (h1 : d.kind = 1) (h0 : 0 ≤ at_) (hat : at_ ≤ 1000000) (hdl : d.data.length ≤ 1000000) (hn : 0 ≤ m)
    (ht : (d.data.drop at_.toNat).take m.toNat = t) (hk : ∀ σ', Hs σ' X (FlC x f i (at_ + t.length) fl false :: Fs f N V nl :: R) → k (.tuple #[.string (bs t), .int .i64 0]) σ') :
    kCall Tryd.prog 11 [pp x, .int .i64 m] σ k := by
  subst ht
  exact fread_c h hm hr hd h1 h0 hat hdl hn hk
theorem fnew_c (n : Nat) (hn : n ≤ 100) {a b : Int} (ha : a = (n : Int) + 2) (hb1 : 1 ≤ b) (hb2 : b ≤ 4096) (h : Hs σ X R) (hk : ∀ f σ', Hs σ' X (Fs f b.toNat (tre none n) [] :: R) → k (.tuple #[pp f, .int .i64 0]) σ') :
    kCall Tryd.prog 7 [.int .i64 a, .int .i64 b] σ k := by
  subst ha
  have e0 : ((n : Int) + 2).toNat = n + 2 := by omega
  refine tnew_c (a := (n : Int) + 2) (V1 := some ⟨2, 0, 0, [], rep64⟩ :: none :: List.replicate n none) (V2 := tre none n) (a' := 1) (e' := 0) (n := 0) (s := []) (s2 := []) (e := 0) h (by omega) (by omega) hb1 hb2 (by rw [e0]; rfl) rfl (fun d hd => ?_) hk
  obtain rfl : (⟨2, 0, 0, [], rep64⟩ : NV) = d := Option.some.inj hd
  exact ⟨by decide, by decide⟩
/-- A file is made and opened. -/
theorem fopen_new {r3 : Int} (h : Hs σ X (Fs f N (tre none n) [] :: R)) (h3 : An fl 3 r3) (hr3 : r3 ≠ 0) (h8 : An fl 8 8) (h16 : An fl 16 0) (hf0 : 0 ≤ fl) (hf1 : fl < 64)
    (hk : ∀ x σ', Hs σ' X (FlC x f 2 0 fl false :: Fs f N (tre (some (fV 1 1 [] rep64)) n) [(pthA, .int .i64 2)] :: R) → k (.tuple #[pp x, .int .i64 0]) σ') :
    kCall Tryd.prog 9 [pp f, .int .i64 1, .string (bs pthA), .int .i64 fl] σ k := by
  refine open_c (i := 2) (a := 0) (s := []) (e := 0) (V' := tre (some (fV 1 0 [] rep64)) n) (nl := [(pthA, .int .i64 2)]) (V2 := tre (some (fV 1 1 [] rep64)) n) h3 hr3 h16 hf0 hf1 rfl (fun d hd => ?_) rfl (fun k' hk' => ?_) hk
  · obtain rfl : fV 1 0 [] rep64 = d := Option.some.inj hd
    exact ⟨by decide, by decide⟩
  · refine find_new (a := 2) (s := []) (s2 := []) (e := 0) (V1 := tre (some (fV 0 0 [] rep64)) n) (d := fV 1 0 [] rep64) h rfl h8 (by show (1 : Int) ≠ 0; decide) rfl (fun d hd => ?_) rfl rfl hk'
    obtain rfl : fV 0 0 [] rep64 = d := Option.some.inj hd
    exact ⟨by decide, by decide⟩
/-- A file that is there is opened. -/
theorem fopen_old {nm us r3 r8 r32 : Int} {hs : List Bool} (h : Hs σ X (Fs f N (tre (some (fV nm us s hs)) n) [(pthA, .int .i64 2)] :: R)) (hu : 0 ≤ us ∧ us ≤ 100) (h3 : An fl 3 r3) (hr3 : r3 ≠ 0) (h8 : An fl 8 r8) (h32 : An fl 32 r32) (hx : r8 = 0 ∨ r32 = 0) (h16 : An fl 16 0) (hf0 : 0 ≤ fl) (hf1 : fl < 64)
    (hk : ∀ x σ', Hs σ' X (FlC x f 2 0 fl false :: Fs f N (tre (some (fV nm (us + 1) s hs)) n) [(pthA, .int .i64 2)] :: R) → k (.tuple #[pp x, .int .i64 0]) σ') :
    kCall Tryd.prog 9 [pp f, .int .i64 1, .string (bs pthA), .int .i64 fl] σ k := by
  refine open_c (i := 2) (a := 0) (s := []) (e := 0) (V' := tre (some (fV nm us s hs)) n) (nl := [(pthA, .int .i64 2)]) (V2 := tre (some (fV nm (us + 1) s hs)) n) h3 hr3 h16 hf0 hf1 rfl (fun d hd => ?_) rfl (fun k' hk' => ?_) hk
  · obtain rfl : fV nm us s hs = d := Option.some.inj hd
    exact ⟨by show _ ≤ us; omega, by show us ≤ _; omega⟩
  · exact find_old h rfl rfl h8 h32 hx hk'
theorem an {fl m r : Int} (h : binV .and (.int .i64 fl) (.int .i64 m) = some (.int .i64 r)) : An fl m r := h
theorem hello_cnt : (hasW rep64 0 5).count true = 1 := by kernel_rfl
theorem hello_used : used (tre (some (fV 1 1 [] rep64)) 7) = 0 := by kernel_rfl
theorem hello_many : IsMany rep64 (9 - used (tre (some (fV 1 1 [] rep64)) 7)) 0 5 5 := by
  refine ⟨by omega, ⟨.inr (by omega), ?_⟩, .inl rfl⟩
  rw [hello_cnt, hello_used]; omega
theorem awake_c (h : Hs σ X R) (hk : ∀ σ', k (.bool true) σ') : kCall Tryd.prog 8 [] σ k := by
  refine f8 ?_
  (simp (maxSteps := 1000000) (dsimp := false) (disch := (first | omega | (simp only [okR]; done) | (simp only [sizeR] <;> omega) | fail)) only [↓preR, postR, ↓w_join, Nat.reduceEqDiff, Nat.reduceAdd, Nat.reduceSub, Nat.reduceMul, Int.reduceNeg, Nat.reduceLT, Int.reduceToNat, Nat.reduceLeDiff, Nat.sub_zero, F8])
  refine fnew_c 7 (by decide) rfl (by decide) (by decide) h fun f σ1 h1 => ?_
  (simp (maxSteps := 1000000) (dsimp := false) (disch := (first | omega | (simp only [okR]; done) | (simp only [sizeR] <;> omega) | fail)) only [↓preR, postR, ↓w_join, Nat.reduceEqDiff, Nat.reduceAdd, Nat.reduceSub, Nat.reduceMul, Int.reduceNeg, Nat.reduceLT, Int.reduceToNat, Nat.reduceLeDiff, Nat.sub_zero])
  refine fopen_new (fl := 10) (r3 := 2) h1 (an (by kernel_rfl)) (by decide) (an (by kernel_rfl)) (an (by kernel_rfl)) (by decide) (by decide) fun x σ2 h2 => ?_
  (simp (maxSteps := 1000000) (dsimp := false) (disch := (first | omega | (simp only [okR]; done) | (simp only [sizeR] <;> omega) | fail)) only [↓preR, postR, ↓w_join, Nat.reduceEqDiff, Nat.reduceAdd, Nat.reduceSub, Nat.reduceMul, Int.reduceNeg, Nat.reduceLT, Int.reduceToNat, Nat.reduceLeDiff, Nat.sub_zero])
  refine fwrite_c (r := 2) (r4 := 0) (pos := 0) (d := fV 1 1 [] rep64) h2 (an (by kernel_rfl)) (by decide) (an (by kernel_rfl)) rfl rfl rfl (by decide) (by decide) hello_many fun σ3 h3 => ?_
  (simp (maxSteps := 1000000) (dsimp := false) (disch := (first | omega | (simp only [okR]; done) | (simp only [sizeR] <;> omega) | fail)) only [↓preR, postR, ↓w_join, Nat.reduceEqDiff, Nat.reduceAdd, Nat.reduceSub, Nat.reduceMul, Int.reduceNeg, Nat.reduceLT, Int.reduceToNat, Nat.reduceLeDiff, Nat.sub_zero])
  refine fopen_old (fl := 1) (r3 := 1) (r8 := 0) (r32 := 0) (nm := 1) (us := 1) (h3.front 1 rfl) (by decide) (an (by kernel_rfl)) (by decide) (an (by kernel_rfl)) (an (by kernel_rfl)) (.inl rfl) (an (by kernel_rfl)) (by decide) (by decide) fun y σ4 h4 => ?_
  (simp (maxSteps := 1000000) (dsimp := false) (disch := (first | omega | (simp only [okR]; done) | (simp only [sizeR] <;> omega) | fail)) only [↓preR, postR, ↓w_join, Nat.reduceEqDiff, Nat.reduceAdd, Nat.reduceSub, Nat.reduceMul, Int.reduceNeg, Nat.reduceLT, Int.reduceToNat, Nat.reduceLeDiff, Nat.sub_zero])
  refine fread_e (r := 1) (t := [104, 101]) (d := fV 1 2 [104, 101, 108, 108, 111] _) h4 (an (by kernel_rfl)) (by decide) rfl rfl (by decide) (by decide) (by decide) (by decide) (by kernel_rfl) fun σ5 h5 => ?_
  (simp (maxSteps := 1000000) (dsimp := false) (disch := (first | omega | (simp only [okR]; done) | (simp only [sizeR] <;> omega) | fail)) only [↓preR, postR, ↓w_join, Nat.reduceEqDiff, Nat.reduceAdd, Nat.reduceSub, Nat.reduceMul, Int.reduceNeg, Nat.reduceLT, Int.reduceToNat, Nat.reduceLeDiff, Nat.sub_zero])
  refine fread_e (r := 1) (t := [108, 108, 111]) (d := fV 1 2 [104, 101, 108, 108, 111] _) h5 (an (by kernel_rfl)) (by decide) rfl rfl (by decide) (by decide) (by decide) (by decide) (by kernel_rfl) fun σ6 h6 => ?_
  (simp (maxSteps := 1000000) (dsimp := false) (disch := (first | omega | (simp only [okR]; done) | (simp only [sizeR] <;> omega) | fail)) only [↓preR, postR, ↓w_join, Nat.reduceEqDiff, Nat.reduceAdd, Nat.reduceSub, Nat.reduceMul, Int.reduceNeg, Nat.reduceLT, Int.reduceToNat, Nat.reduceLeDiff, Nat.sub_zero])
  refine open_not (e := 22) (i := 0) (r3 := 2) (an (by kernel_rfl)) (by decide) (by decide) (by decide) (by decide) (fun k' hk' => find_there (r8 := 8) (r32 := 32) (h6.front 1 rfl) rfl rfl (an (by kernel_rfl)) (an (by kernel_rfl)) (by decide) (by decide) hk') fun σ7 h7 => ?_
  (simp (maxSteps := 1000000) (dsimp := false) (disch := (first | omega | (simp only [okR]; done) | (simp only [sizeR] <;> omega) | fail)) only [↓preR, postR, ↓w_join, Nat.reduceEqDiff, Nat.reduceAdd, Nat.reduceSub, Nat.reduceMul, Int.reduceNeg, Nat.reduceLT, Int.reduceToNat, Nat.reduceLeDiff, Nat.sub_zero])
  exact hk _
theorem n_open {fl : Int} (hk : k (.tuple #[.pointer none, .int .i64 2]) σ) : kCall Tryd.prog 9 [.pointer none, .int .i64 a, .string (bs data), .int .i64 fl] σ k := by
  refine f9 ?_
  (simp (maxSteps := 1000000) (dsimp := false) (disch := (first | omega | (simp only [okR]; done) | (simp only [sizeR] <;> omega) | fail)) only [↓preR, postR, ↓w_join, Nat.reduceEqDiff, Nat.reduceAdd, Nat.reduceSub, Nat.reduceMul, Int.reduceNeg, Nat.reduceLT, Int.reduceToNat, Nat.reduceLeDiff, Nat.sub_zero, F9])
  exact hk
theorem n_may {m : Int} (hk : k (.int .i64 2) σ) : kCall Tryd.prog 25 [.pointer none, .int .i64 m] σ k := by
  refine f25 ?_
  (simp (maxSteps := 1000000) (dsimp := false) (disch := (first | omega | (simp only [okR]; done) | (simp only [sizeR] <;> omega) | fail)) only [↓preR, postR, ↓w_join, Nat.reduceEqDiff, Nat.reduceAdd, Nat.reduceSub, Nat.reduceMul, Int.reduceNeg, Nat.reduceLT, Int.reduceToNat, Nat.reduceLeDiff, Nat.sub_zero, F25])
  exact hk
theorem n_read {m : Int} (hk : k (.tuple #[.string (bs []), .int .i64 2]) σ) : kCall Tryd.prog 11 [.pointer none, .int .i64 m] σ k := by
  refine f11 ?_
  (simp (maxSteps := 1000000) (dsimp := false) (disch := (first | omega | (simp only [okR]; done) | (simp only [sizeR] <;> omega) | fail)) only [↓preR, postR, ↓w_join, Nat.reduceEqDiff, Nat.reduceAdd, Nat.reduceSub, Nat.reduceMul, Int.reduceNeg, Nat.reduceLT, Int.reduceToNat, Nat.reduceLeDiff, Nat.sub_zero, F11])
  refine n_may ?_
  (simp (maxSteps := 1000000) (dsimp := false) (disch := (first | omega | (simp only [okR]; done) | (simp only [sizeR] <;> omega) | fail)) only [↓preR, postR, ↓w_join, Nat.reduceEqDiff, Nat.reduceAdd, Nat.reduceSub, Nat.reduceMul, Int.reduceNeg, Nat.reduceLT, Int.reduceToNat, Nat.reduceLeDiff, Nat.sub_zero])
  exact hk
theorem n_write (hk : k (.tuple #[.int .i64 0, .int .i64 2]) σ) : kCall Tryd.prog 10 [.pointer none, .string (bs data)] σ k := by
  refine f10 ?_
  (simp (maxSteps := 1000000) (dsimp := false) (disch := (first | omega | (simp only [okR]; done) | (simp only [sizeR] <;> omega) | fail)) only [↓preR, postR, ↓w_join, Nat.reduceEqDiff, Nat.reduceAdd, Nat.reduceSub, Nat.reduceMul, Int.reduceNeg, Nat.reduceLT, Int.reduceToNat, Nat.reduceLeDiff, Nat.sub_zero, F10])
  refine n_may ?_
  (simp (maxSteps := 1000000) (dsimp := false) (disch := (first | omega | (simp only [okR]; done) | (simp only [sizeR] <;> omega) | fail)) only [↓preR, postR, ↓w_join, Nat.reduceEqDiff, Nat.reduceAdd, Nat.reduceSub, Nat.reduceMul, Int.reduceNeg, Nat.reduceLT, Int.reduceToNat, Nat.reduceLeDiff, Nat.sub_zero])
  exact hk
theorem n_at (hk : k (.int .i64 0) σ) : kCall Tryd.prog 12 [.pointer none] σ k := by
  refine f12 ?_
  (simp (maxSteps := 1000000) (dsimp := false) (disch := (first | omega | (simp only [okR]; done) | (simp only [sizeR] <;> omega) | fail)) only [↓preR, postR, ↓w_join, Nat.reduceEqDiff, Nat.reduceAdd, Nat.reduceSub, Nat.reduceMul, Int.reduceNeg, Nat.reduceLT, Int.reduceToNat, Nat.reduceLeDiff, Nat.sub_zero, F12])
  exact hk
theorem n_node (hk : k (.int .i64 0) σ) : kCall Tryd.prog 14 [.pointer none] σ k := by
  refine f14 ?_
  (simp (maxSteps := 1000000) (dsimp := false) (disch := (first | omega | (simp only [okR]; done) | (simp only [sizeR] <;> omega) | fail)) only [↓preR, postR, ↓w_join, Nat.reduceEqDiff, Nat.reduceAdd, Nat.reduceSub, Nat.reduceMul, Int.reduceNeg, Nat.reduceLT, Int.reduceToNat, Nat.reduceLeDiff, Nat.sub_zero, F14])
  exact hk
theorem n_close (hk : k (.int .i64 2) σ) : kCall Tryd.prog 15 [.pointer none] σ k := by
  refine f15 ?_
  (simp (maxSteps := 1000000) (dsimp := false) (disch := (first | omega | (simp only [okR]; done) | (simp only [sizeR] <;> omega) | fail)) only [↓preR, postR, ↓w_join, Nat.reduceEqDiff, Nat.reduceAdd, Nat.reduceSub, Nat.reduceMul, Int.reduceNeg, Nat.reduceLT, Int.reduceToNat, Nat.reduceLeDiff, Nat.sub_zero, F15])
  exact hk
theorem nil_walk {i : Int} {data : List UInt8} (h : Hs σ X R) : kCall Tryd.prog 5 [.string (bs data), .int .i64 i] σ fun v _ => v = .bool true := by
  refine f5 ?_
  (try simp (maxSteps := 1000000) (dsimp := false) (disch := (first | omega | (simp only [okR]; done) | (simp only [sizeR] <;> omega) | fail)) only [↓preR, postR, ↓w_join, Nat.reduceEqDiff, Nat.reduceAdd, Nat.reduceSub, Nat.reduceMul, Int.reduceNeg, Nat.reduceLT, Int.reduceToNat, Nat.reduceLeDiff, Nat.sub_zero, F5])
  refine n_open ?_
  (try simp (maxSteps := 1000000) (dsimp := false) (disch := (first | omega | (simp only [okR]; done) | (simp only [sizeR] <;> omega) | fail)) only [↓preR, postR, ↓w_join, Nat.reduceEqDiff, Nat.reduceAdd, Nat.reduceSub, Nat.reduceMul, Int.reduceNeg, Nat.reduceLT, Int.reduceToNat, Nat.reduceLeDiff, Nat.sub_zero])
  refine n_read ?_
  (try simp (maxSteps := 1000000) (dsimp := false) (disch := (first | omega | (simp only [okR]; done) | (simp only [sizeR] <;> omega) | fail)) only [↓preR, postR, ↓w_join, Nat.reduceEqDiff, Nat.reduceAdd, Nat.reduceSub, Nat.reduceMul, Int.reduceNeg, Nat.reduceLT, Int.reduceToNat, Nat.reduceLeDiff, Nat.sub_zero])
  refine n_write ?_
  (try simp (maxSteps := 1000000) (dsimp := false) (disch := (first | omega | (simp only [okR]; done) | (simp only [sizeR] <;> omega) | fail)) only [↓preR, postR, ↓w_join, Nat.reduceEqDiff, Nat.reduceAdd, Nat.reduceSub, Nat.reduceMul, Int.reduceNeg, Nat.reduceLT, Int.reduceToNat, Nat.reduceLeDiff, Nat.sub_zero])
  refine n_at ?_
  (try simp (maxSteps := 1000000) (dsimp := false) (disch := (first | omega | (simp only [okR]; done) | (simp only [sizeR] <;> omega) | fail)) only [↓preR, postR, ↓w_join, Nat.reduceEqDiff, Nat.reduceAdd, Nat.reduceSub, Nat.reduceMul, Int.reduceNeg, Nat.reduceLT, Int.reduceToNat, Nat.reduceLeDiff, Nat.sub_zero])
  refine n_node ?_
  (try simp (maxSteps := 1000000) (dsimp := false) (disch := (first | omega | (simp only [okR]; done) | (simp only [sizeR] <;> omega) | fail)) only [↓preR, postR, ↓w_join, Nat.reduceEqDiff, Nat.reduceAdd, Nat.reduceSub, Nat.reduceMul, Int.reduceNeg, Nat.reduceLT, Int.reduceToNat, Nat.reduceLeDiff, Nat.sub_zero])
  refine n_close ?_
  (try simp (maxSteps := 1000000) (dsimp := false) (disch := (first | omega | (simp only [okR]; done) | (simp only [sizeR] <;> omega) | fail)) only [↓preR, postR, ↓w_join, Nat.reduceEqDiff, Nat.reduceAdd, Nat.reduceSub, Nat.reduceMul, Int.reduceNeg, Nat.reduceLT, Int.reduceToNat, Nat.reduceLeDiff, Nat.sub_zero])
  refine awake_c h fun σ1 => ?_
  (try simp (maxSteps := 1000000) (dsimp := false) (disch := (first | omega | (simp only [okR]; done) | (simp only [sizeR] <;> omega) | fail)) only [↓preR, postR, ↓w_join, Nat.reduceEqDiff, Nat.reduceAdd, Nat.reduceSub, Nat.reduceMul, Int.reduceNeg, Nat.reduceLT, Int.reduceToNat, Nat.reduceLeDiff, Nat.sub_zero])
theorem nil_law {v0 v1 : Value} {c : Ce} (h : Hs σ X []) (A0 : OV c (shOf Tryd.prog 8 9) v0) (A1 : OV c (shOf Tryd.prog 8 3) v1) :
    kCall Tryd.prog 5 [v0, v1] σ fun v _ => v = .bool true := by
  rw [show shOf Tryd.prog 8 9 = .str from by kernel_rfl] at A0
  rw [show shOf Tryd.prog 8 3 = .int .i64 from by kernel_rfl] at A1
  obtain ⟨data, rfl, h0⟩ := arg_str A0
  obtain ⟨i, rfl, h1⟩ := arg_int A1
  exact nil_walk h
end
end Go.Proofs.YtmlceloabmkjmaaDoor
