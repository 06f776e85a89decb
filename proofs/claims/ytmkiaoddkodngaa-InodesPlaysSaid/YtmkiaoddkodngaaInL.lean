/- Nodes: what was written is read; a full table; cuts. Conditions: as each theorem says. -/
import Derived.Test.YtmkiaoddkodngaaInK
namespace Go.Proofs.Ytmkiaoddkodngaa
open E Go.Lib
set_option linter.unusedVariables false
set_option linter.unusedSimpArgs false
set_option maxHeartbeats 1000000
set_option maxRecDepth 20000

section
variable {σ σ' : AS} {X : Ce} {R : List Ck} {k : Value → AS → Prop} {was data : List UInt8} {a b m : Nat}
theorem dataW_len (s t : List UInt8) (a m : Nat) (hm : m ≤ t.length) : (dataW s a m t).length = if m = 0 then s.length else max s.length (a + m) := by
  unfold dataW
  split
  · rfl
  · simp only [List.length_append, List.length_take, List.length_drop, List.length_replicate]
    omega
/-- What is wanted of a write. -/
theorem want_eq (was data : List UInt8) (a : Nat) (hd : data ≠ []) (w : List UInt8) (hw : w = was ++ List.replicate (a - was.length) 0) :
    w.take a ++ data ++ w.drop (min (a + data.length) w.length) = dataW was a data.length data := by
  have hl : 0 < data.length := List.length_pos_iff.2 hd
  unfold dataW
  rw [if_neg (by omega), List.take_of_length_le (Nat.le_refl data.length)]
  subst hw
  have e1 : (was ++ List.replicate (a - was.length) (0 : UInt8)).take a = (was ++ List.replicate (a + data.length - was.length) 0).take a := by
    rw [List.take_append, List.take_append, List.take_replicate, List.take_replicate]
    congr 2
    omega
  rw [e1]
  congr 1
  by_cases h : a + data.length ≤ was.length
  · rw [show a - was.length = 0 from by omega, show a + data.length - was.length = 0 from by omega, List.replicate_zero, List.append_nil, show min (a + data.length) was.length = a + data.length from by omega]
  · rw [List.drop_of_length_le (by simp; omega), List.drop_of_length_le (by simp; omega)]
theorem used_le : ∀ V : TV, (∀ d, some d ∈ V → d.has.length = 64) → used V ≤ 64 * V.countP (·.isSome)
  | [], _ => by simp [used]
  | o :: V, h => by
    have ih := used_le V fun d hd => h d (List.mem_cons_of_mem _ hd)
    have e : used (o :: V) = use o + used V := by simp [used]
    rw [e, List.countP_cons]
    cases o with
    | none => simp [use]; omega
    | some d =>
      have h1 := h d (by simp)
      have : d.has.count true ≤ d.has.length := List.count_le_length
      simp [use]; omega
abbrev rep64 : List Bool := List.replicate 64 false
theorem rep64_len : rep64.length = 64 := by simp
abbrev nvW (has : List Bool) (s : List UInt8) : NV := ⟨1, 0, 0, s, has⟩
theorem mk1 (n : Nat) : doM (0, 0, 0, 1, []) (List.replicate (n + 1) none) 0 = ((1, [], 0), some (nvW rep64 []) :: List.replicate n none) := by
  simp only [doM, if_true]
  rw [if_neg (by omega)]
  rfl
theorem mk2 (d : NV) (n : Nat) : doM (0, 0, 0, 1, []) (some d :: List.replicate (n + 1) none) 0 = ((2, [], 0), some d :: some (nvW rep64 []) :: List.replicate n none) := by
  simp only [doM, if_true]
  rw [if_neg (by omega)]
  rfl
theorem dw0 (s : List UInt8) : dataW [] 0 s.length s = s := by
  unfold dataW
  split
  · rename_i h
    exact (List.eq_nil_of_length_eq_zero h).symm
  · rw [List.drop_of_length_le (by simp)]
    simp
theorem rd0 (s : List UInt8) (n : Int) (h : s.length ≤ n.toNat) : (s.drop (0 : Int).toNat).take n.toNat = s := by
  simp only [Int.toNat_zero, List.drop_zero]
  exact List.take_of_length_le h
theorem used2 {hx hy : List Bool} {s t : List UInt8} (h1 : hx.length = 64) (h2 : hy.length = 64) : used [some (nvW hx s), some (nvW hy t), none] ≤ 128 := by
  have h1' : hx.count true ≤ hx.length := List.count_le_length
  have h2' : hy.count true ≤ hy.length := List.count_le_length
  show hx.count true + (hy.count true + (0 + 0)) ≤ 128
  omega
theorem kr1 (was : List UInt8) (o : Option NV) : ∃ hs, hs.length = 64 ∧ doM (6, 1, 0, 0, was) [some (nvW rep64 []), some (nvW rep64 []), o] was.length = (((was.length : Int), [], 0), [some (nvW hs was), some (nvW rep64 []), o]) := by
  have := do_all (V := [some (nvW rep64 []), some (nvW rep64 []), o]) (i := 1) (at_ := 0) (n := 0) (data := was) (d := nvW rep64 []) rfl (by decide)
  rw [show dataW (nvW rep64 []).data (0 : Int).toNat was.length was = was from dw0 was] at this
  exact ⟨_, (hasW_len _ _ _).trans rep64_len, this⟩
theorem kr2 (was : List UInt8) (x : NV) (o : Option NV) : ∃ hs, hs.length = 64 ∧ doM (6, 2, 0, 0, was) [some x, some (nvW rep64 []), o] was.length = (((was.length : Int), [], 0), [some x, some (nvW hs was), o]) := by
  have := do_all (V := [some x, some (nvW rep64 []), o]) (i := 2) (at_ := 0) (n := 0) (data := was) (d := nvW rep64 []) rfl (by decide)
  rw [show dataW (nvW rep64 []).data (0 : Int).toNat was.length was = was from dw0 was] at this
  exact ⟨_, (hasW_len _ _ _).trans rep64_len, this⟩
theorem kr3 (has : List Bool) (was data : List UInt8) (a : Nat) (x : NV) (o : Option NV) : ∃ hs, hs.length = has.length ∧ doM (6, 1, a, 0, data) [some (nvW has was), some x, o] data.length = (((data.length : Int), [], 0), [some (nvW hs (dataW was a data.length data)), some x, o]) :=
  ⟨_, hasW_len _ _ _, do_all (V := [some (nvW has was), some x, o]) (i := 1) (at_ := a) (n := 0) (data := data) (d := nvW has was) rfl (by omega)⟩
theorem keeps_walk {at_ : Int} (h : Hs σ X R) (hw : was.length ≤ maxLen) (hdl : data.length ≤ maxLen) (hat : inI64 at_) : kCall Try.prog 3 [.string (bs was), .int .i64 at_, .string (bs data)] σ fun v _ => v = .bool true := by
  refine f3 ?_
  unfold maxLen at hw hdl
  by_cases g1 : was.length ≤ 1000
  rotate_left
  · (try simp (maxSteps := 1000000) (dsimp := false) (disch := (first | omega | (simp only [okR]; done) | (simp only [sizeR] <;> omega) | fail)) only [↓preR, postR, ↓w_join, Nat.reduceEqDiff, Nat.reduceAdd, Nat.reduceSub, Nat.reduceMul, Int.reduceNeg, Nat.reduceLT, Int.reduceToNat, Nat.reduceLeDiff, Nat.sub_zero, F3])
    refine awake_c h fun σ' => ?_
    (try simp (maxSteps := 1000000) (dsimp := false) (disch := (first | omega | (simp only [okR]; done) | (simp only [sizeR] <;> omega) | fail)) only [↓preR, postR, ↓w_join, Nat.reduceEqDiff, Nat.reduceAdd, Nat.reduceSub, Nat.reduceMul, Int.reduceNeg, Nat.reduceLT, Int.reduceToNat, Nat.reduceLeDiff, Nat.sub_zero])
  by_cases g2 : 0 ≤ at_
  rotate_left
  · (try simp (maxSteps := 1000000) (dsimp := false) (disch := (first | omega | (simp only [okR]; done) | (simp only [sizeR] <;> omega) | fail)) only [↓preR, postR, ↓w_join, Nat.reduceEqDiff, Nat.reduceAdd, Nat.reduceSub, Nat.reduceMul, Int.reduceNeg, Nat.reduceLT, Int.reduceToNat, Nat.reduceLeDiff, Nat.sub_zero, F3])
    refine awake_c h fun σ' => ?_
    (try simp (maxSteps := 1000000) (dsimp := false) (disch := (first | omega | (simp only [okR]; done) | (simp only [sizeR] <;> omega) | fail)) only [↓preR, postR, ↓w_join, Nat.reduceEqDiff, Nat.reduceAdd, Nat.reduceSub, Nat.reduceMul, Int.reduceNeg, Nat.reduceLT, Int.reduceToNat, Nat.reduceLeDiff, Nat.sub_zero])
  by_cases g3 : at_ ≤ 2000
  rotate_left
  · (try simp (maxSteps := 1000000) (dsimp := false) (disch := (first | omega | (simp only [okR]; done) | (simp only [sizeR] <;> omega) | fail)) only [↓preR, postR, ↓w_join, Nat.reduceEqDiff, Nat.reduceAdd, Nat.reduceSub, Nat.reduceMul, Int.reduceNeg, Nat.reduceLT, Int.reduceToNat, Nat.reduceLeDiff, Nat.sub_zero, F3])
    refine awake_c h fun σ' => ?_
    (try simp (maxSteps := 1000000) (dsimp := false) (disch := (first | omega | (simp only [okR]; done) | (simp only [sizeR] <;> omega) | fail)) only [↓preR, postR, ↓w_join, Nat.reduceEqDiff, Nat.reduceAdd, Nat.reduceSub, Nat.reduceMul, Int.reduceNeg, Nat.reduceLT, Int.reduceToNat, Nat.reduceLeDiff, Nat.sub_zero])
  by_cases g4 : data.length ≤ 1000
  rotate_left
  · (try simp (maxSteps := 1000000) (dsimp := false) (disch := (first | omega | (simp only [okR]; done) | (simp only [sizeR] <;> omega) | fail)) only [↓preR, postR, ↓w_join, Nat.reduceEqDiff, Nat.reduceAdd, Nat.reduceSub, Nat.reduceMul, Int.reduceNeg, Nat.reduceLT, Int.reduceToNat, Nat.reduceLeDiff, Nat.sub_zero, F3])
    refine awake_c h fun σ' => ?_
    (try simp (maxSteps := 1000000) (dsimp := false) (disch := (first | omega | (simp only [okR]; done) | (simp only [sizeR] <;> omega) | fail)) only [↓preR, postR, ↓w_join, Nat.reduceEqDiff, Nat.reduceAdd, Nat.reduceSub, Nat.reduceMul, Int.reduceNeg, Nat.reduceLT, Int.reduceToNat, Nat.reduceLeDiff, Nat.sub_zero])
  obtain ⟨a, rfl⟩ : ∃ a : Nat, at_ = a := ⟨at_.toNat, by omega⟩
  (simp (maxSteps := 1000000) (dsimp := false) (disch := (first | omega | (simp only [okR]; done) | (simp only [sizeR] <;> omega) | fail)) only [↓preR, postR, ↓w_join, Nat.reduceEqDiff, Nat.reduceAdd, Nat.reduceSub, Nat.reduceMul, Int.reduceNeg, Nat.reduceLT, Int.reduceToNat, Nat.reduceLeDiff, Nat.sub_zero, F3])
  refine vnew_c h (fun hb => by omega) (fun t σ1 _ _ _ _ h1 => ?_)
  (simp (maxSteps := 1000000) (dsimp := false) (disch := (first | omega | (simp only [okR]; done) | (simp only [sizeR] <;> omega) | fail)) only [↓preR, postR, ↓w_join, Nat.reduceEqDiff, Nat.reduceAdd, Nat.reduceSub, Nat.reduceMul, Int.reduceNeg, Nat.reduceLT, Int.reduceToNat, Nat.reduceLeDiff, Nat.sub_zero])
  refine emake h1 (mk1 2) fun σ2 h2 => ?_
  (simp (maxSteps := 1000000) (dsimp := false) (disch := (first | omega | (simp only [okR]; done) | (simp only [sizeR] <;> omega) | fail)) only [↓preR, postR, ↓w_join, Nat.reduceEqDiff, Nat.reduceAdd, Nat.reduceSub, Nat.reduceMul, Int.reduceNeg, Nat.reduceLT, Int.reduceToNat, Nat.reduceLeDiff, Nat.sub_zero])
  refine emake h2 (mk2 _ 1) fun σ3 h3 => ?_
  (simp (maxSteps := 1000000) (dsimp := false) (disch := (first | omega | (simp only [okR]; done) | (simp only [sizeR] <;> omega) | fail)) only [↓preR, postR, ↓w_join, Nat.reduceEqDiff, Nat.reduceAdd, Nat.reduceSub, Nat.reduceMul, Int.reduceNeg, Nat.reduceLT, Int.reduceToNat, Nat.reduceLeDiff, Nat.sub_zero])
  have e200 : (200 : Int).toNat = 200 := rfl
  obtain ⟨ha, hla, kra⟩ := kr1 was none
  obtain ⟨hb, hlb, krb⟩ := kr2 was (nvW ha was) none
  obtain ⟨hc, hlc, krc⟩ := kr3 ha was data a (nvW hb was) none
  have hdl := dataW_len was data a data.length (Nat.le_refl _)
  have e0 : ((0 : Int)).toNat = 0 := rfl
  have ea : ((a : Int)).toNat = a := by omega
  refine ewrite (m := was.length) h3 (by decide) (by omega) (fun d hd _ _ => ?_) kra fun σ4 h4 => ?_
  · obtain rfl : nvW rep64 [] = d := Option.some.inj hd
    exact many_all rep64_len (by decide) (by simp only [e0]; omega)
  (simp (maxSteps := 1000000) (dsimp := false) (disch := (first | omega | (simp only [okR]; done) | (simp only [sizeR] <;> omega) | fail)) only [↓preR, postR, ↓w_join, Nat.reduceEqDiff, Nat.reduceAdd, Nat.reduceSub, Nat.reduceMul, Int.reduceNeg, Nat.reduceLT, Int.reduceToNat, Nat.reduceLeDiff, Nat.sub_zero])
  refine ewrite (m := was.length) h4 (by decide) (by omega) (fun d hd _ _ => ?_) krb fun σ5 h5 => ?_
  · obtain rfl : nvW rep64 [] = d := Option.some.inj hd
    have := used2 (s := was) (t := []) hla rep64_len
    exact many_all rep64_len (by rw [e200]; omega) (by simp only [e0]; omega)
  (simp (maxSteps := 1000000) (dsimp := false) (disch := (first | omega | (simp only [okR]; done) | (simp only [sizeR] <;> omega) | fail)) only [↓preR, postR, ↓w_join, Nat.reduceEqDiff, Nat.reduceAdd, Nat.reduceSub, Nat.reduceMul, Int.reduceNeg, Nat.reduceLT, Int.reduceToNat, Nat.reduceLeDiff, Nat.sub_zero])
  refine ewrite (m := data.length) h5 (by omega) (by omega) (fun d hd _ _ => ?_) krc fun σ6 h6 => ?_
  · obtain rfl : nvW ha was = d := Option.some.inj hd
    have := used2 (s := was) (t := was) hla hlb
    exact many_all hla (by rw [e200]; omega) (by simp only [ea]; omega)
  (simp (maxSteps := 1000000) (dsimp := false) (disch := (first | omega | (simp only [okR]; done) | (simp only [sizeR] <;> omega) | fail)) only [↓preR, postR, ↓w_join, Nat.reduceEqDiff, Nat.reduceAdd, Nat.reduceSub, Nat.reduceMul, Int.reduceNeg, Nat.reduceLT, Int.reduceToNat, Nat.reduceLeDiff, Nat.sub_zero])
  refine eread h6 (d := nvW hc (dataW was a data.length data)) rfl (by decide) (by decide) fun σ7 h7 => ?_
  rw [rd0 _ _ (by show (dataW was a data.length data).length ≤ 9999; rw [hdl]; split <;> omega)]
  (simp (maxSteps := 1000000) (dsimp := false) (disch := (first | omega | (simp only [okR]; done) | (simp only [sizeR] <;> omega) | fail)) only [↓preR, postR, ↓w_join, Nat.reduceEqDiff, Nat.reduceAdd, Nat.reduceSub, Nat.reduceMul, Int.reduceNeg, Nat.reduceLT, Int.reduceToNat, Nat.reduceLeDiff, Nat.sub_zero])
  refine eread h7 (d := nvW hb was) rfl (by decide) (by decide) fun σ8 h8 => ?_
  rw [rd0 _ _ (by show was.length ≤ 9999; omega)]
  have esz : ((atV [some (nvW hc (dataW was a data.length data)), some (nvW hb was), none] 1).map fun d => (d.data.length : Int)).getD 0 = ((dataW was a data.length data).length : Int) := rfl
  by_cases hd : data = []
  · subst hd
    have e1 : dataW was a 0 [] = was := rfl
    simp only [List.length_nil, e1] at esz h8
    (simp (maxSteps := 1000000) (dsimp := false) (disch := (first | omega | (simp only [okR]; done) | (simp only [sizeR] <;> omega) | fail)) only [↓preR, postR, ↓w_join, Nat.reduceEqDiff, Nat.reduceAdd, Nat.reduceSub, Nat.reduceMul, Int.reduceNeg, Nat.reduceLT, Int.reduceToNat, Nat.reduceLeDiff, Nat.sub_zero, e1])
    refine vsize_c h8 ?_
    (simp (maxSteps := 1000000) (dsimp := false) (disch := (first | omega | (simp only [okR]; done) | (simp only [sizeR] <;> omega) | fail)) only [↓preR, postR, ↓w_join, Nat.reduceEqDiff, Nat.reduceAdd, Nat.reduceSub, Nat.reduceMul, Int.reduceNeg, Nat.reduceLT, Int.reduceToNat, Nat.reduceLeDiff, Nat.sub_zero, esz])
    refine awake_c h8 fun σ9 => ?_
    (try simp (maxSteps := 1000000) (dsimp := false) (disch := (first | omega | (simp only [okR]; done) | (simp only [sizeR] <;> omega) | fail)) only [↓preR, postR, ↓w_join, Nat.reduceEqDiff, Nat.reduceAdd, Nat.reduceSub, Nat.reduceMul, Int.reduceNeg, Nat.reduceLT, Int.reduceToNat, Nat.reduceLeDiff, Nat.sub_zero])
  · have hp : 0 < data.length := List.length_pos_iff.2 hd
    obtain ⟨w, hw⟩ : ∃ w, w = was ++ List.replicate (a - was.length) 0 := ⟨_, rfl⟩
    have hwl : w.length = max was.length a := by rw [hw, List.length_append, List.length_replicate]; omega
    have hww := want_eq was data a hd w hw
    have hmn : (if (w.length : Int) < (a : Int) + (data.length : Int) then (w.length : Int) else (a : Int) + (data.length : Int)) = ((min (a + data.length) w.length : Nat) : Int) := by split <;> omega
    have t1 : (w.drop (min (a + data.length) w.length)).take (w.length - min (a + data.length) w.length) = w.drop (min (a + data.length) w.length) := List.take_of_length_le (by rw [List.length_drop]; omega)
    by_cases hlt : was.length < a
    · have ez : ((a : Int) - (was.length : Int)).toNat = a - was.length := by omega
      (simp (maxSteps := 1000000) (dsimp := false) (disch := (first | omega | (simp only [okR]; done) | (simp only [sizeR] <;> omega) | fail)) only [↓preR, postR, ↓w_join, Nat.reduceEqDiff, Nat.reduceAdd, Nat.reduceSub, Nat.reduceMul, Int.reduceNeg, Nat.reduceLT, Int.reduceToNat, Nat.reduceLeDiff, Nat.sub_zero, hd, ez])
      refine cvb_all (l := List.replicate (a - was.length) 0) (new_eq_.trans (by simp)) (by simp) ?_
      (simp (maxSteps := 1000000) (dsimp := false) (disch := (first | omega | (simp only [okR]; done) | (simp only [sizeR] <;> omega) | fail)) only [↓preR, postR, ↓w_join, Nat.reduceEqDiff, Nat.reduceAdd, Nat.reduceSub, Nat.reduceMul, Int.reduceNeg, Nat.reduceLT, Int.reduceToNat, Nat.reduceLeDiff, Nat.sub_zero])
      rw [← hw]
      have t2 : (w.drop w.length).take (w.length - w.length) = w.drop (min (a + data.length) w.length) := by
        rw [show min (a + data.length) w.length = w.length from by omega]; simp
      rw [t2, hww]
      (simp (maxSteps := 1000000) (dsimp := false) (disch := (first | omega | (simp only [okR]; done) | (simp only [sizeR] <;> omega) | fail)) only [↓preR, postR, ↓w_join, Nat.reduceEqDiff, Nat.reduceAdd, Nat.reduceSub, Nat.reduceMul, Int.reduceNeg, Nat.reduceLT, Int.reduceToNat, Nat.reduceLeDiff, Nat.sub_zero])
      refine vsize_c (h8.junk _) ?_
      (simp (maxSteps := 1000000) (dsimp := false) (disch := (first | omega | (simp only [okR]; done) | (simp only [sizeR] <;> omega) | fail)) only [↓preR, postR, ↓w_join, Nat.reduceEqDiff, Nat.reduceAdd, Nat.reduceSub, Nat.reduceMul, Int.reduceNeg, Nat.reduceLT, Int.reduceToNat, Nat.reduceLeDiff, Nat.sub_zero, esz])
      refine awake_c (h8.junk _) fun σ9 => ?_
      (try simp (maxSteps := 1000000) (dsimp := false) (disch := (first | omega | (simp only [okR]; done) | (simp only [sizeR] <;> omega) | fail)) only [↓preR, postR, ↓w_join, Nat.reduceEqDiff, Nat.reduceAdd, Nat.reduceSub, Nat.reduceMul, Int.reduceNeg, Nat.reduceLT, Int.reduceToNat, Nat.reduceLeDiff, Nat.sub_zero])
    · have hw0 : w = was := by rw [hw, show a - was.length = 0 from by omega]; simp
      rw [hw0] at hmn hww hwl t1
      (simp (maxSteps := 1000000) (dsimp := false) (disch := (first | omega | (simp only [okR]; done) | (simp only [sizeR] <;> omega) | fail)) only [↓preR, postR, ↓w_join, Nat.reduceEqDiff, Nat.reduceAdd, Nat.reduceSub, Nat.reduceMul, Int.reduceNeg, Nat.reduceLT, Int.reduceToNat, Nat.reduceLeDiff, Nat.sub_zero, hd, hmn])
      rw [t1, hww]
      (simp (maxSteps := 1000000) (dsimp := false) (disch := (first | omega | (simp only [okR]; done) | (simp only [sizeR] <;> omega) | fail)) only [↓preR, postR, ↓w_join, Nat.reduceEqDiff, Nat.reduceAdd, Nat.reduceSub, Nat.reduceMul, Int.reduceNeg, Nat.reduceLT, Int.reduceToNat, Nat.reduceLeDiff, Nat.sub_zero])
      refine vsize_c h8 ?_
      (simp (maxSteps := 1000000) (dsimp := false) (disch := (first | omega | (simp only [okR]; done) | (simp only [sizeR] <;> omega) | fail)) only [↓preR, postR, ↓w_join, Nat.reduceEqDiff, Nat.reduceAdd, Nat.reduceSub, Nat.reduceMul, Int.reduceNeg, Nat.reduceLT, Int.reduceToNat, Nat.reduceLeDiff, Nat.sub_zero, esz])
      refine awake_c h8 fun σ9 => ?_
      (try simp (maxSteps := 1000000) (dsimp := false) (disch := (first | omega | (simp only [okR]; done) | (simp only [sizeR] <;> omega) | fail)) only [↓preR, postR, ↓w_join, Nat.reduceEqDiff, Nat.reduceAdd, Nat.reduceSub, Nat.reduceMul, Int.reduceNeg, Nat.reduceLT, Int.reduceToNat, Nat.reduceLeDiff, Nat.sub_zero])
theorem keeps_law {v0 v1 v2 : Value} {c : Ce} (h : Hs σ X []) (A0 : OV c (shOf Try.prog 8 9) v0) (A1 : OV c (shOf Try.prog 8 3) v1) (A2 : OV c (shOf Try.prog 8 9) v2) :
    kCall Try.prog 3 [v0, v1, v2] σ fun v _ => v = .bool true := by
  rw [show shOf Try.prog 8 3 = .int .i64 from by kernel_rfl] at A1
  rw [show shOf Try.prog 8 9 = .str from by kernel_rfl] at A0 A2
  obtain ⟨was, rfl, h0⟩ := arg_str A0
  obtain ⟨i, rfl, h1⟩ := arg_int A1
  obtain ⟨data, rfl, h2⟩ := arg_str A2
  exact keeps_walk h h0 h2 h1
end
end Go.Proofs.Ytmkiaoddkodngaa
