/- Open files: what is written to one is read of another; appended; a file whose name is gone. Conditions: none. -/
import Derived.Test.YtmlceloabmkjmaaDoorFlE
import Derived.Test.YtmlceloabmkjmaaDoorAt
namespace Go.Proofs.YtmlceloabmkjmaaDoor
open E Go.Lib
set_option linter.unusedVariables false
set_option linter.unusedSimpArgs false
set_option maxHeartbeats 1000000
set_option maxRecDepth 20000

section
variable {σ σ' : AS} {X : Ce} {R : List Ck} {k : Value → AS → Prop} {f N x n : Nat} {nl : List (Str × Value)} {i a b e at_ fl : Int} {s s2 data t all piece : List UInt8} {d : NV} {V V' : TV} {hs : List Bool}
theorem rep_cnt (n : Nat) : (List.replicate n false).count true = 0 := by simp [List.count_replicate]
theorem tre_used (nm us : Int) (s : List UInt8) (hs : List Bool) : used (tre (some (fV nm us s hs)) 1) = hs.count true := by
  show rep64.count true + (hs.count true + (0 + 0)) = _
  rw [rep_cnt]; omega
/-- One piece more. -/
theorem wr_step {r r4 nm us : Int} (h : Hs σ X (FlC x f 2 at_ fl false :: Fs f 64 (tre (some (fV nm us all hs)) 1) nl :: R)) (hm : An fl 2 r) (hr : r ≠ 0) (h4 : An fl 4 r4) (hp : r4 = 0 → at_ = all.length) (hl : hs.length = 64) (hlen : all.length + piece.length ≤ 4096)
    (hk : ∀ σ' hs', hs'.length = 64 → Hs σ' X (FlC x f 2 ((all.length : Int) + piece.length) fl false :: Fs f 64 (tre (some (fV nm us (all ++ piece) hs')) 1) nl :: R) → k (.tuple #[.int .i64 piece.length, .int .i64 0]) σ') :
    kCall Tryd.prog 10 [pp x, .string (bs piece)] σ k := by
  refine fwrite_c (pos := all.length) (d := fV nm us all hs) h hm hr h4 ?_ rfl rfl (by omega) (by omega) ?_ fun σ1 h1 => ?_
  · split
    · rename_i h0; exact (hp h0).symm
    · rfl
  · rw [tre_used]
    have hc : hs.count true ≤ hs.length := List.count_le_length
    have hf : 64 ≤ (64 - hs.count true) + hs.count true := by omega
    exact many_fr hl hf hlen
  · have e : wrV (tre (some (fV nm us all hs)) 1) 2 (fV nm us all hs) (all.length : Int) piece = tre (some (fV nm us (all ++ piece) (hasW hs all.length piece.length))) 1 := by
      unfold wrV
      rw [show ((all.length : Int)).toNat = all.length from by omega, dataW_end]
      rfl
    rw [e] at h1
    exact hk _ _ ((hasW_len _ _ _).trans hl) h1
theorem stays_walk {data : List UInt8} (h : Hs σ X R) (hdl : data.length ≤ maxLen) : kCall Tryd.prog 6 [.string (bs data)] σ fun v _ => v = .bool true := by
  refine f6 ?_
  unfold maxLen at hdl
  by_cases g1 : data.length ≤ 1000
  rotate_left
  · (try simp (maxSteps := 1000000) (dsimp := false) (disch := (first | omega | (simp only [okR]; done) | (simp only [sizeR] <;> omega) | fail)) only [↓preR, postR, ↓w_join, Nat.reduceEqDiff, Nat.reduceAdd, Nat.reduceSub, Nat.reduceMul, Int.reduceNeg, Nat.reduceLT, Int.reduceToNat, Nat.reduceLeDiff, Nat.sub_zero, F6])
    refine awake_c h fun σ' => ?_
    (try simp (maxSteps := 1000000) (dsimp := false) (disch := (first | omega | (simp only [okR]; done) | (simp only [sizeR] <;> omega) | fail)) only [↓preR, postR, ↓w_join, Nat.reduceEqDiff, Nat.reduceAdd, Nat.reduceSub, Nat.reduceMul, Int.reduceNeg, Nat.reduceLT, Int.reduceToNat, Nat.reduceLeDiff, Nat.sub_zero])
  (try simp (maxSteps := 1000000) (dsimp := false) (disch := (first | omega | (simp only [okR]; done) | (simp only [sizeR] <;> omega) | fail)) only [↓preR, postR, ↓w_join, Nat.reduceEqDiff, Nat.reduceAdd, Nat.reduceSub, Nat.reduceMul, Int.reduceNeg, Nat.reduceLT, Int.reduceToNat, Nat.reduceLeDiff, Nat.sub_zero, F6])
  refine fnew_c 1 (by decide) rfl (by decide) (by decide) h fun f σ1 h1 => ?_
  (try simp (maxSteps := 1000000) (dsimp := false) (disch := (first | omega | (simp only [okR]; done) | (simp only [sizeR] <;> omega) | fail)) only [↓preR, postR, ↓w_join, Nat.reduceEqDiff, Nat.reduceAdd, Nat.reduceSub, Nat.reduceMul, Int.reduceNeg, Nat.reduceLT, Int.reduceToNat, Nat.reduceLeDiff, Nat.sub_zero])
  refine tfreen_c h1 fun _ => ?_
  (try simp (maxSteps := 1000000) (dsimp := false) (disch := (first | omega | (simp only [okR]; done) | (simp only [sizeR] <;> omega) | fail)) only [↓preR, postR, ↓w_join, Nat.reduceEqDiff, Nat.reduceAdd, Nat.reduceSub, Nat.reduceMul, Int.reduceNeg, Nat.reduceLT, Int.reduceToNat, Nat.reduceLeDiff, Nat.sub_zero])
  refine fopen_new (fl := 11) (r3 := 3) h1 (an (by kernel_rfl)) (by decide) (an (by kernel_rfl)) (an (by kernel_rfl)) (by decide) (by decide) fun x σ2 h2 => ?_
  (try simp (maxSteps := 1000000) (dsimp := false) (disch := (first | omega | (simp only [okR]; done) | (simp only [sizeR] <;> omega) | fail)) only [↓preR, postR, ↓w_join, Nat.reduceEqDiff, Nat.reduceAdd, Nat.reduceSub, Nat.reduceMul, Int.reduceNeg, Nat.reduceLT, Int.reduceToNat, Nat.reduceLeDiff, Nat.sub_zero])
  obtain ⟨t, dm, dp, nm, h3⟩ := Fs.open (h2.front 1 rfl)
  refine tunlink_c (V' := tre (some (fV 0 1 [] rep64)) 1) (e := 0) (s := []) h3 rfl (by decide) (fun d hd => ?_) rfl fun σ3 h4 => ?_
  · obtain rfl : fV 1 1 [] rep64 = d := Option.some.inj hd
    exact ⟨by decide, by decide⟩
  have h5 : Hs σ3 X (FlC x f 2 0 11 false :: Fs f 64 (tre (some (fV 0 1 [] rep64)) 1) [] :: R) := (Fs.close h4).swap
  (try simp (maxSteps := 1000000) (dsimp := false) (disch := (first | omega | (simp only [okR]; done) | (simp only [sizeR] <;> omega) | fail)) only [↓preR, postR, ↓w_join, Nat.reduceEqDiff, Nat.reduceAdd, Nat.reduceSub, Nat.reduceMul, Int.reduceNeg, Nat.reduceLT, Int.reduceToNat, Nat.reduceLeDiff, Nat.sub_zero])
  refine wr_step (r := 2) (r4 := 0) (all := []) h5 (an (by kernel_rfl)) (by decide) (an (by kernel_rfl)) (fun _ => rfl) rep64_len (by simp; omega) fun σ4 hs hl h6 => ?_
  rw [List.nil_append] at h6
  (try simp (maxSteps := 1000000) (dsimp := false) (disch := (first | omega | (simp only [okR]; done) | (simp only [sizeR] <;> omega) | fail)) only [↓preR, postR, ↓w_join, Nat.reduceEqDiff, Nat.reduceAdd, Nat.reduceSub, Nat.reduceMul, Int.reduceNeg, Nat.reduceLT, Int.reduceToNat, Nat.reduceLeDiff, Nat.sub_zero])
  refine fnode_c h6 ?_
  (try simp (maxSteps := 1000000) (dsimp := false) (disch := (first | omega | (simp only [okR]; done) | (simp only [sizeR] <;> omega) | fail)) only [↓preR, postR, ↓w_join, Nat.reduceEqDiff, Nat.reduceAdd, Nat.reduceSub, Nat.reduceMul, Int.reduceNeg, Nat.reduceLT, Int.reduceToNat, Nat.reduceLeDiff, Nat.sub_zero])
  refine tread_c (n := 2000) (d := fV 0 1 data hs) (h6.front 1 rfl) rfl rfl (by decide) (by decide) fun σ5 h7 => ?_
  rw [show ((fV 0 1 data hs).data.drop (0 : Int).toNat).take (2000 : Int).toNat = data from rd0 data 2000 (by simp; omega)]
  (try simp (maxSteps := 1000000) (dsimp := false) (disch := (first | omega | (simp only [okR]; done) | (simp only [sizeR] <;> omega) | fail)) only [↓preR, postR, ↓w_join, Nat.reduceEqDiff, Nat.reduceAdd, Nat.reduceSub, Nat.reduceMul, Int.reduceNeg, Nat.reduceLT, Int.reduceToNat, Nat.reduceLeDiff, Nat.sub_zero])
  refine fclose_c (V' := tre none 1) (a := 0) (s := []) (e := 0) h7.swap (fun d hd => ?_) rfl fun σ6 h8 => ?_
  · obtain rfl : fV 0 1 data hs = d := Option.some.inj hd
    exact ⟨by show (-1000000 : Int) ≤ 1; decide, by show (1 : Int) ≤ 1000000; decide⟩
  (try simp (maxSteps := 1000000) (dsimp := false) (disch := (first | omega | (simp only [okR]; done) | (simp only [sizeR] <;> omega) | fail)) only [↓preR, postR, ↓w_join, Nat.reduceEqDiff, Nat.reduceAdd, Nat.reduceSub, Nat.reduceMul, Int.reduceNeg, Nat.reduceLT, Int.reduceToNat, Nat.reduceLeDiff, Nat.sub_zero])
  refine fclose_closed h8 ?_
  (try simp (maxSteps := 1000000) (dsimp := false) (disch := (first | omega | (simp only [okR]; done) | (simp only [sizeR] <;> omega) | fail)) only [↓preR, postR, ↓w_join, Nat.reduceEqDiff, Nat.reduceAdd, Nat.reduceSub, Nat.reduceMul, Int.reduceNeg, Nat.reduceLT, Int.reduceToNat, Nat.reduceLeDiff, Nat.sub_zero])
  refine tfreen_c (h8.front 1 rfl) fun _ => ?_
  (try simp (maxSteps := 1000000) (dsimp := false) (disch := (first | omega | (simp only [okR]; done) | (simp only [sizeR] <;> omega) | fail)) only [↓preR, postR, ↓w_join, Nat.reduceEqDiff, Nat.reduceAdd, Nat.reduceSub, Nat.reduceMul, Int.reduceNeg, Nat.reduceLT, Int.reduceToNat, Nat.reduceLeDiff, Nat.sub_zero])
  refine fread_closed (r := 1) h8 (an (by kernel_rfl)) ?_
  (try simp (maxSteps := 1000000) (dsimp := false) (disch := (first | omega | (simp only [okR]; done) | (simp only [sizeR] <;> omega) | fail)) only [↓preR, postR, ↓w_join, Nat.reduceEqDiff, Nat.reduceAdd, Nat.reduceSub, Nat.reduceMul, Int.reduceNeg, Nat.reduceLT, Int.reduceToNat, Nat.reduceLeDiff, Nat.sub_zero])
  refine awake_c h8 fun σ7 => ?_
  (try simp (maxSteps := 1000000) (dsimp := false) (disch := (first | omega | (simp only [okR]; done) | (simp only [sizeR] <;> omega) | fail)) only [↓preR, postR, ↓w_join, Nat.reduceEqDiff, Nat.reduceAdd, Nat.reduceSub, Nat.reduceMul, Int.reduceNeg, Nat.reduceLT, Int.reduceToNat, Nat.reduceLeDiff, Nat.sub_zero])
theorem stays_law {v0 : Value} {c : Ce} (h : Hs σ X []) (A0 : OV c (shOf Tryd.prog 8 9) v0) :
    kCall Tryd.prog 6 [v0] σ fun v _ => v = .bool true := by
  rw [show shOf Tryd.prog 8 9 = .str from by kernel_rfl] at A0
  obtain ⟨data, rfl, h0⟩ := arg_str A0
  exact stays_walk h h0
end
end Go.Proofs.YtmlceloabmkjmaaDoor
