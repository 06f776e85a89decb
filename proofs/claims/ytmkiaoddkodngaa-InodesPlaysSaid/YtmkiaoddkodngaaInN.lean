/- Nodes: a full table; cuts. Conditions: as each theorem says. -/
import Derived.Test.YtmkiaoddkodngaaInL
namespace Go.Proofs.Ytmkiaoddkodngaa
open E Go.Lib
set_option linter.unusedVariables false
set_option linter.unusedSimpArgs false
set_option maxHeartbeats 1000000
set_option maxRecDepth 20000

section
variable {σ σ' : AS} {X : Ce} {R : List Ck} {k : Value → AS → Prop} {was data : List UInt8} {a b m : Nat}
theorem full_has (a m : Nat) (ha : a ≤ 63) (hm : 0 < m) (h : a + m ≤ 4096) : (hasW rep64 a m).count true = (a + m - 1) / 64 + 1 := by
  have e : hasW rep64 a m = List.replicate ((a + m - 1) / 64 + 1) true ++ List.replicate (63 - (a + m - 1) / 64) false := by
    apply List.ext_getElem?
    intro p
    rw [hasW_get]
    by_cases hp : p < (a + m - 1) / 64 + 1
    · rw [List.getElem?_append_left (by simpa using hp), List.getElem?_replicate, if_pos (by omega), List.getElem?_replicate, if_pos hp]
      have e1 : a / 64 ≤ p := by omega
      have e2 : p ≤ (a + m - 1) / 64 := by omega
      simp [hm, e1, e2]
    · rw [List.getElem?_append_right (by simp; omega), List.length_replicate, List.getElem?_replicate, List.getElem?_replicate]
      have e2 : ¬ p ≤ (a + m - 1) / 64 := by omega
      by_cases h64 : p < 64
      · rw [if_pos h64, if_pos (by omega)]
        simp [e2]
      · rw [if_neg h64, if_neg (by omega)]; rfl
  rw [e, List.count_append, List.count_replicate_self, List.count_replicate]
  simp
theorem rep64_cnt : rep64.count true = 0 := by simp [List.count_replicate]
theorem full_is {B len : Nat} (h1 : 1 ≤ B) (h2 : B ≤ 20) (ha : a ≤ 63) (hl : 0 < len) : IsMany rep64 B a len (min len (64 * B - a)) := by
  have hm : 0 < min len (64 * B - a) := by omega
  refine ⟨by omega, ⟨.inr (by omega), ?_⟩, ?_⟩
  · rw [full_has a _ ha hm (by omega), rep64_cnt]; omega
  · by_cases hx : min len (64 * B - a) = len
    · exact .inl hx
    · right
      intro hf
      have := hf.2
      rw [full_has a _ ha (by omega) (by omega), rep64_cnt] at this
      omega
theorem fr1 (o : Option NV) (ha : a ≤ 63) (hm : 0 < m) (h : a + m ≤ 4096) : ∃ hs, hs.length = 64 ∧ hs.count true = (a + m - 1) / 64 + 1 ∧ doM (6, 1, a, 0, data) [some (nvW rep64 []), o] m = (((m : Int), [], 0), [some (nvW hs (dataW [] a m data)), o]) := by
  refine ⟨_, (hasW_len rep64 a m).trans rep64_len, full_has a m ha hm h, ?_⟩
  have h3 : ¬ (a : Int) < 0 := by omega
  have h4 : ¬ m = 0 := by omega
  have e : atV [some (nvW rep64 []), o] 1 = some (nvW rep64 []) := rfl
  simp only [doM, e, h3, h4, if_false]
  rfl
theorem fr2 (x : NV) : doM (6, 2, 0, 0, [120]) [some x, some (nvW rep64 [])] 0 = ((0, [], 20), [some x, some (nvW rep64 [])]) := rfl
theorem fr3 (x : NV) : ∃ V', doM (6, 2, 0, 0, [120]) [some x, some (nvW rep64 [])] 1 = ((1, [], 0), [some x, V']) := ⟨_, rfl⟩
theorem dataW_read (data : List UInt8) (a m : Nat) (hm : 0 < m) (h : m ≤ data.length) : ((dataW [] a m data).drop a).take m = data.take m := by
  unfold dataW
  rw [if_neg (by omega), List.nil_append, List.drop_of_length_le (l := List.replicate _ _) (by simp), List.append_nil, List.drop_append_of_le_length (by simp), List.drop_of_length_le (by simp), List.nil_append, List.take_take, Nat.min_self]
theorem full_walk {b at_ : Int} (h : Hs σ X R) (hdl : data.length ≤ maxLen) (hb : inI64 b) (hat : inI64 at_) : kCall Try.prog 4 [.int .i64 b, .int .i64 at_, .string (bs data)] σ fun v _ => v = .bool true := by
  refine f4 ?_
  unfold maxLen at hdl
  by_cases g1 : 1 ≤ b
  rotate_left
  · (try simp (maxSteps := 1000000) (dsimp := false) (disch := (first | omega | (simp only [okR]; done) | (simp only [sizeR] <;> omega) | fail)) only [↓preR, postR, ↓w_join, Nat.reduceEqDiff, Nat.reduceAdd, Nat.reduceSub, Nat.reduceMul, Int.reduceNeg, Nat.reduceLT, Int.reduceToNat, Nat.reduceLeDiff, Nat.sub_zero, F4])
    refine awake_c h fun σ' => ?_
    (try simp (maxSteps := 1000000) (dsimp := false) (disch := (first | omega | (simp only [okR]; done) | (simp only [sizeR] <;> omega) | fail)) only [↓preR, postR, ↓w_join, Nat.reduceEqDiff, Nat.reduceAdd, Nat.reduceSub, Nat.reduceMul, Int.reduceNeg, Nat.reduceLT, Int.reduceToNat, Nat.reduceLeDiff, Nat.sub_zero])
  by_cases g2 : b ≤ 20
  rotate_left
  · (try simp (maxSteps := 1000000) (dsimp := false) (disch := (first | omega | (simp only [okR]; done) | (simp only [sizeR] <;> omega) | fail)) only [↓preR, postR, ↓w_join, Nat.reduceEqDiff, Nat.reduceAdd, Nat.reduceSub, Nat.reduceMul, Int.reduceNeg, Nat.reduceLT, Int.reduceToNat, Nat.reduceLeDiff, Nat.sub_zero, F4])
    refine awake_c h fun σ' => ?_
    (try simp (maxSteps := 1000000) (dsimp := false) (disch := (first | omega | (simp only [okR]; done) | (simp only [sizeR] <;> omega) | fail)) only [↓preR, postR, ↓w_join, Nat.reduceEqDiff, Nat.reduceAdd, Nat.reduceSub, Nat.reduceMul, Int.reduceNeg, Nat.reduceLT, Int.reduceToNat, Nat.reduceLeDiff, Nat.sub_zero])
  by_cases g3 : 0 ≤ at_
  rotate_left
  · (try simp (maxSteps := 1000000) (dsimp := false) (disch := (first | omega | (simp only [okR]; done) | (simp only [sizeR] <;> omega) | fail)) only [↓preR, postR, ↓w_join, Nat.reduceEqDiff, Nat.reduceAdd, Nat.reduceSub, Nat.reduceMul, Int.reduceNeg, Nat.reduceLT, Int.reduceToNat, Nat.reduceLeDiff, Nat.sub_zero, F4])
    refine awake_c h fun σ' => ?_
    (try simp (maxSteps := 1000000) (dsimp := false) (disch := (first | omega | (simp only [okR]; done) | (simp only [sizeR] <;> omega) | fail)) only [↓preR, postR, ↓w_join, Nat.reduceEqDiff, Nat.reduceAdd, Nat.reduceSub, Nat.reduceMul, Int.reduceNeg, Nat.reduceLT, Int.reduceToNat, Nat.reduceLeDiff, Nat.sub_zero])
  by_cases g4 : at_ ≤ 63
  rotate_left
  · (try simp (maxSteps := 1000000) (dsimp := false) (disch := (first | omega | (simp only [okR]; done) | (simp only [sizeR] <;> omega) | fail)) only [↓preR, postR, ↓w_join, Nat.reduceEqDiff, Nat.reduceAdd, Nat.reduceSub, Nat.reduceMul, Int.reduceNeg, Nat.reduceLT, Int.reduceToNat, Nat.reduceLeDiff, Nat.sub_zero, F4])
    refine awake_c h fun σ' => ?_
    (try simp (maxSteps := 1000000) (dsimp := false) (disch := (first | omega | (simp only [okR]; done) | (simp only [sizeR] <;> omega) | fail)) only [↓preR, postR, ↓w_join, Nat.reduceEqDiff, Nat.reduceAdd, Nat.reduceSub, Nat.reduceMul, Int.reduceNeg, Nat.reduceLT, Int.reduceToNat, Nat.reduceLeDiff, Nat.sub_zero])
  by_cases g5 : data.length ≤ 2000
  rotate_left
  · (try simp (maxSteps := 1000000) (dsimp := false) (disch := (first | omega | (simp only [okR]; done) | (simp only [sizeR] <;> omega) | fail)) only [↓preR, postR, ↓w_join, Nat.reduceEqDiff, Nat.reduceAdd, Nat.reduceSub, Nat.reduceMul, Int.reduceNeg, Nat.reduceLT, Int.reduceToNat, Nat.reduceLeDiff, Nat.sub_zero, F4])
    refine awake_c h fun σ' => ?_
    (try simp (maxSteps := 1000000) (dsimp := false) (disch := (first | omega | (simp only [okR]; done) | (simp only [sizeR] <;> omega) | fail)) only [↓preR, postR, ↓w_join, Nat.reduceEqDiff, Nat.reduceAdd, Nat.reduceSub, Nat.reduceMul, Int.reduceNeg, Nat.reduceLT, Int.reduceToNat, Nat.reduceLeDiff, Nat.sub_zero])
  by_cases g6 : data = []
  · (try simp (maxSteps := 1000000) (dsimp := false) (disch := (first | omega | (simp only [okR]; done) | (simp only [sizeR] <;> omega) | fail)) only [↓preR, postR, ↓w_join, Nat.reduceEqDiff, Nat.reduceAdd, Nat.reduceSub, Nat.reduceMul, Int.reduceNeg, Nat.reduceLT, Int.reduceToNat, Nat.reduceLeDiff, Nat.sub_zero, F4, g6])
    refine awake_c h fun σ' => ?_
    (try simp (maxSteps := 1000000) (dsimp := false) (disch := (first | omega | (simp only [okR]; done) | (simp only [sizeR] <;> omega) | fail)) only [↓preR, postR, ↓w_join, Nat.reduceEqDiff, Nat.reduceAdd, Nat.reduceSub, Nat.reduceMul, Int.reduceNeg, Nat.reduceLT, Int.reduceToNat, Nat.reduceLeDiff, Nat.sub_zero])
  obtain ⟨a, rfl⟩ : ∃ a : Nat, at_ = a := ⟨at_.toNat, by omega⟩
  obtain ⟨B, rfl⟩ : ∃ B : Nat, b = B := ⟨b.toNat, by omega⟩
  have hp : 0 < data.length := List.length_pos_iff.2 g6
  (simp (maxSteps := 1000000) (dsimp := false) (disch := (first | omega | (simp only [okR]; done) | (simp only [sizeR] <;> omega) | fail)) only [↓preR, postR, ↓w_join, Nat.reduceEqDiff, Nat.reduceAdd, Nat.reduceSub, Nat.reduceMul, Int.reduceNeg, Nat.reduceLT, Int.reduceToNat, Nat.reduceLeDiff, Nat.sub_zero, F4, g6])
  refine vnew_c h (fun hb => by omega) (fun t σ1 _ _ _ _ h1 => ?_)
  (simp (maxSteps := 1000000) (dsimp := false) (disch := (first | omega | (simp only [okR]; done) | (simp only [sizeR] <;> omega) | fail)) only [↓preR, postR, ↓w_join, Nat.reduceEqDiff, Nat.reduceAdd, Nat.reduceSub, Nat.reduceMul, Int.reduceNeg, Nat.reduceLT, Int.reduceToNat, Nat.reduceLeDiff, Nat.sub_zero])
  refine emake h1 (mk1 1) fun σ2 h2 => ?_
  (simp (maxSteps := 1000000) (dsimp := false) (disch := (first | omega | (simp only [okR]; done) | (simp only [sizeR] <;> omega) | fail)) only [↓preR, postR, ↓w_join, Nat.reduceEqDiff, Nat.reduceAdd, Nat.reduceSub, Nat.reduceMul, Int.reduceNeg, Nat.reduceLT, Int.reduceToNat, Nat.reduceLeDiff, Nat.sub_zero])
  refine emake h2 (mk2 _ 0) fun σ3 h3 => ?_
  (simp (maxSteps := 1000000) (dsimp := false) (disch := (first | omega | (simp only [okR]; done) | (simp only [sizeR] <;> omega) | fail)) only [↓preR, postR, ↓w_join, Nat.reduceEqDiff, Nat.reduceAdd, Nat.reduceSub, Nat.reduceMul, Int.reduceNeg, Nat.reduceLT, Int.reduceToNat, Nat.reduceLeDiff, Nat.sub_zero])
  have eB : ((B : Int)).toNat = B := by omega
  have ea : ((a : Int)).toNat = a := by omega
  rw [eB] at h3
  have hfi := full_is (B := B) (a := a) (len := data.length) (by omega) (by omega) (by omega) hp
  obtain ⟨m, hm⟩ : ∃ m, m = min data.length (64 * B - a) := ⟨_, rfl⟩
  rw [← hm] at hfi
  obtain ⟨hs, hsl, hsc, hsr⟩ := fr1 (a := a) (m := m) (data := data) (some (nvW rep64 [])) (by omega) (by omega) (by omega)
  refine ewrite (m := m) h3 (by omega) (by omega) (fun d hd _ _ => ?_) hsr fun σ4 h4 => ?_
  · obtain rfl : nvW rep64 [] = d := Option.some.inj hd
    simp only [ea]
    exact hfi
  have hmn : (if 64 * (B : Int) - (a : Int) < (data.length : Int) then 64 * (B : Int) - (a : Int) else (data.length : Int)) = (m : Int) := by split <;> omega
  (simp (maxSteps := 1000000) (dsimp := false) (disch := (first | omega | (simp only [okR]; done) | (simp only [sizeR] <;> omega) | fail)) only [↓preR, postR, ↓w_join, Nat.reduceEqDiff, Nat.reduceAdd, Nat.reduceSub, Nat.reduceMul, Int.reduceNeg, Nat.reduceLT, Int.reduceToNat, Nat.reduceLeDiff, Nat.sub_zero, hmn])
  have hm0 : 0 < m := by omega
  have hu : used [some (nvW hs (dataW [] a m data)), some (nvW rep64 [])] = (a + m - 1) / 64 + 1 := by
    show hs.count true + (rep64.count true + 0) = _
    rw [hsc, rep64_cnt]
  have hlen := dataW_len [] data a m (by omega)
  rw [if_neg (by omega)] at hlen
  refine eread h4 (d := nvW hs (dataW [] a m data)) rfl (by omega) (by omega) fun σ5 h5 => ?_
  have erd : ((dataW [] a m data).drop ((a : Int)).toNat).take ((m : Int)).toNat = data.take m := by
    rw [ea, show ((m : Int)).toNat = m from by omega]
    exact dataW_read data a m hm0 (by omega)
  rw [erd]
  (simp (maxSteps := 1000000) (dsimp := false) (disch := (first | omega | (simp only [okR]; done) | (simp only [sizeR] <;> omega) | fail)) only [↓preR, postR, ↓w_join, Nat.reduceEqDiff, Nat.reduceAdd, Nat.reduceSub, Nat.reduceMul, Int.reduceNeg, Nat.reduceLT, Int.reduceToNat, Nat.reduceLeDiff, Nat.sub_zero])
  refine vfree_c h5 fun hle => ?_
  rw [hu] at hle ⊢
  (simp (maxSteps := 1000000) (dsimp := false) (disch := (first | omega | (simp only [okR]; done) | (simp only [sizeR] <;> omega) | fail)) only [↓preR, postR, ↓w_join, Nat.reduceEqDiff, Nat.reduceAdd, Nat.reduceSub, Nat.reduceMul, Int.reduceNeg, Nat.reduceLT, Int.reduceToNat, Nat.reduceLeDiff, Nat.sub_zero])
  have esz : ∀ o : Option NV, ((atV [some (nvW hs (dataW [] a m data)), o] 1).map fun d => (d.data.length : Int)).getD 0 = (a : Int) + (m : Int) := by
    intro o
    show ((dataW [] a m data).length : Int) = _
    rw [hlen, List.length_nil]; omega
  by_cases hc : B = (a + m - 1) / 64 + 1
  · refine ewrite (m := 0) h5 (by decide) (by decide) (fun d hd _ _ => ?_) (fr2 _) fun σ6 h6 => ?_
    · obtain rfl : nvW rep64 [] = d := Option.some.inj hd
      rw [hu]
      refine ⟨by decide, Fits.none _ _ _, .inr (full_many rep64_len ?_ ?_)⟩
      · rw [hasW_zero]; rfl
      · rw [hasW_zero, rep64_cnt]; omega
    have e0 : ((B - ((a + m - 1) / 64 + 1) : Nat) : Int) = 0 := by omega
    (simp (maxSteps := 1000000) (dsimp := false) (disch := (first | omega | (simp only [okR]; done) | (simp only [sizeR] <;> omega) | fail)) only [↓preR, postR, ↓w_join, Nat.reduceEqDiff, Nat.reduceAdd, Nat.reduceSub, Nat.reduceMul, Int.reduceNeg, Nat.reduceLT, Int.reduceToNat, Nat.reduceLeDiff, Nat.sub_zero, e0])
    refine vsize_c h6 ?_
    (simp (maxSteps := 1000000) (dsimp := false) (disch := (first | omega | (simp only [okR]; done) | (simp only [sizeR] <;> omega) | fail)) only [↓preR, postR, ↓w_join, Nat.reduceEqDiff, Nat.reduceAdd, Nat.reduceSub, Nat.reduceMul, Int.reduceNeg, Nat.reduceLT, Int.reduceToNat, Nat.reduceLeDiff, Nat.sub_zero, esz])
    refine awake_c h6 fun σ7 => ?_
    (try simp (maxSteps := 1000000) (dsimp := false) (disch := (first | omega | (simp only [okR]; done) | (simp only [sizeR] <;> omega) | fail)) only [↓preR, postR, ↓w_join, Nat.reduceEqDiff, Nat.reduceAdd, Nat.reduceSub, Nat.reduceMul, Int.reduceNeg, Nat.reduceLT, Int.reduceToNat, Nat.reduceLeDiff, Nat.sub_zero])
  · obtain ⟨V', hv⟩ := fr3 (nvW hs (dataW [] a m data))
    refine ewrite (m := 1) h5 (by decide) (by decide) (fun d hd _ _ => ?_) hv fun σ6 h6 => ?_
    · obtain rfl : nvW rep64 [] = d := Option.some.inj hd
      rw [hu]
      refine ⟨by decide, ⟨.inr (by decide), ?_⟩, .inl rfl⟩
      rw [full_has _ 1 (by decide) (by decide) (by decide), rep64_cnt]
      simp; omega
    have e0 : ¬ ((B - ((a + m - 1) / 64 + 1) : Nat) : Int) = 0 := by omega
    (simp (maxSteps := 1000000) (dsimp := false) (disch := (first | omega | (simp only [okR]; done) | (simp only [sizeR] <;> omega) | fail)) only [↓preR, postR, ↓w_join, Nat.reduceEqDiff, Nat.reduceAdd, Nat.reduceSub, Nat.reduceMul, Int.reduceNeg, Nat.reduceLT, Int.reduceToNat, Nat.reduceLeDiff, Nat.sub_zero, e0])
    refine vsize_c h6 ?_
    (simp (maxSteps := 1000000) (dsimp := false) (disch := (first | omega | (simp only [okR]; done) | (simp only [sizeR] <;> omega) | fail)) only [↓preR, postR, ↓w_join, Nat.reduceEqDiff, Nat.reduceAdd, Nat.reduceSub, Nat.reduceMul, Int.reduceNeg, Nat.reduceLT, Int.reduceToNat, Nat.reduceLeDiff, Nat.sub_zero, esz])
    refine awake_c h6 fun σ7 => ?_
    (try simp (maxSteps := 1000000) (dsimp := false) (disch := (first | omega | (simp only [okR]; done) | (simp only [sizeR] <;> omega) | fail)) only [↓preR, postR, ↓w_join, Nat.reduceEqDiff, Nat.reduceAdd, Nat.reduceSub, Nat.reduceMul, Int.reduceNeg, Nat.reduceLT, Int.reduceToNat, Nat.reduceLeDiff, Nat.sub_zero])
theorem full_law {v0 v1 v2 : Value} {c : Ce} (h : Hs σ X []) (A0 : OV c (shOf Try.prog 8 3) v0) (A1 : OV c (shOf Try.prog 8 3) v1) (A2 : OV c (shOf Try.prog 8 9) v2) :
    kCall Try.prog 4 [v0, v1, v2] σ fun v _ => v = .bool true := by
  rw [show shOf Try.prog 8 3 = .int .i64 from by kernel_rfl] at A0 A1
  rw [show shOf Try.prog 8 9 = .str from by kernel_rfl] at A2
  obtain ⟨b, rfl, h0⟩ := arg_int A0
  obtain ⟨i, rfl, h1⟩ := arg_int A1
  obtain ⟨data, rfl, h2⟩ := arg_str A2
  exact full_walk h h2 h0 h1
theorem cut_eq (data : List UInt8) (a b : Nat) : (((data ++ List.replicate (a - data.length) 0).take a) ++ List.replicate (b - a) 0).take b = data.take (min (min data.length a) b) ++ List.replicate (b - min (min data.length a) b) 0 := by
  apply List.ext_getElem?
  intro i
  have e1 : (data.take (min (min data.length a) b)).length = min (min data.length a) b := by simp; omega
  have e2 : ((data ++ List.replicate (a - data.length) (0 : UInt8)).take a).length = a := by simp; omega
  rw [List.getElem?_take]
  by_cases hb : i < b
  · rw [if_pos hb]
    by_cases ha : i < a
    · rw [List.getElem?_append_left (by omega), List.getElem?_take, if_pos ha]
      by_cases hl : i < data.length
      · rw [List.getElem?_append_left hl, List.getElem?_append_left (by omega), List.getElem?_take, if_pos (by omega)]
      · rw [List.getElem?_append_right (by omega), List.getElem?_append_right (by omega), List.getElem?_replicate, List.getElem?_replicate, if_pos (by omega), if_pos (by omega)]
    · rw [List.getElem?_append_right (by omega), List.getElem?_append_right (by omega), List.getElem?_replicate, List.getElem?_replicate, if_pos (by omega), if_pos (by omega)]
  · rw [if_neg hb, List.getElem?_eq_none (by rw [List.length_append, e1, List.length_replicate]; omega)]
theorem cr1 (has : List Bool) (s : List UInt8) (n : Nat) (hn : n ≤ 4096) : ∃ hs, doM (7, 1, 0, n, []) [some (nvW has s)] 0 = ((0, [], 0), [some (nvW hs ((s ++ List.replicate (n - s.length) 0).take n))]) := by
  have h1 : ¬ (n : Int) < 0 := by omega
  have h2 : ¬ (4096 : Int) < n := by omega
  have e : atV [some (nvW has s)] 1 = some (nvW has s) := rfl
  have e2 : ((n : Int)).toNat = n := by omega
  simp only [doM, e, h1, h2, if_false, e2]
  exact ⟨_, rfl⟩
theorem cr0 (data : List UInt8) : ∃ hs, doM (6, 1, 0, 0, data) [some (nvW rep64 [])] data.length = (((data.length : Int), [], 0), [some (nvW hs data)]) := by
  have := do_all (V := [some (nvW rep64 [])]) (i := 1) (at_ := 0) (n := 0) (data := data) (d := nvW rep64 []) rfl (by decide)
  rw [show dataW (nvW rep64 []).data (0 : Int).toNat data.length data = data from dw0 data] at this
  exact ⟨_, this⟩
theorem cuts_walk {c d : Int} (h : Hs σ X R) (hdl : data.length ≤ maxLen) (hc : inI64 c) (hd : inI64 d) : kCall Try.prog 5 [.string (bs data), .agg [.int .i64 c, .int .i64 d].toArray] σ fun v _ => v = .bool true := by
  refine f5 ?_
  unfold maxLen at hdl
  have h1 := h.new (cs := [.int .i64 c, .int .i64 d])
  by_cases g1 : data.length ≤ 2000
  rotate_left
  · (try simp (maxSteps := 1000000) (dsimp := false) (disch := (first | omega | (simp only [okR]; done) | (simp only [sizeR] <;> omega) | fail)) only [↓preR, postR, ↓w_join, Nat.reduceEqDiff, Nat.reduceAdd, Nat.reduceSub, Nat.reduceMul, Int.reduceNeg, Nat.reduceLT, Int.reduceToNat, Nat.reduceLeDiff, Nat.sub_zero, F5])
    refine awake_c h1 fun σ' => ?_
    (try simp (maxSteps := 1000000) (dsimp := false) (disch := (first | omega | (simp only [okR]; done) | (simp only [sizeR] <;> omega) | fail)) only [↓preR, postR, ↓w_join, Nat.reduceEqDiff, Nat.reduceAdd, Nat.reduceSub, Nat.reduceMul, Int.reduceNeg, Nat.reduceLT, Int.reduceToNat, Nat.reduceLeDiff, Nat.sub_zero])
  by_cases g2 : 0 ≤ c
  rotate_left
  · (try simp (maxSteps := 1000000) (dsimp := false) (disch := (first | omega | (simp only [okR]; done) | (simp only [sizeR] <;> omega) | fail)) only [↓preR, postR, ↓w_join, Nat.reduceEqDiff, Nat.reduceAdd, Nat.reduceSub, Nat.reduceMul, Int.reduceNeg, Nat.reduceLT, Int.reduceToNat, Nat.reduceLeDiff, Nat.sub_zero, F5])
    refine awake_c h1 fun σ' => ?_
    (try simp (maxSteps := 1000000) (dsimp := false) (disch := (first | omega | (simp only [okR]; done) | (simp only [sizeR] <;> omega) | fail)) only [↓preR, postR, ↓w_join, Nat.reduceEqDiff, Nat.reduceAdd, Nat.reduceSub, Nat.reduceMul, Int.reduceNeg, Nat.reduceLT, Int.reduceToNat, Nat.reduceLeDiff, Nat.sub_zero])
  by_cases g3 : c ≤ 4096
  rotate_left
  · (try simp (maxSteps := 1000000) (dsimp := false) (disch := (first | omega | (simp only [okR]; done) | (simp only [sizeR] <;> omega) | fail)) only [↓preR, postR, ↓w_join, Nat.reduceEqDiff, Nat.reduceAdd, Nat.reduceSub, Nat.reduceMul, Int.reduceNeg, Nat.reduceLT, Int.reduceToNat, Nat.reduceLeDiff, Nat.sub_zero, F5])
    refine awake_c h1 fun σ' => ?_
    (try simp (maxSteps := 1000000) (dsimp := false) (disch := (first | omega | (simp only [okR]; done) | (simp only [sizeR] <;> omega) | fail)) only [↓preR, postR, ↓w_join, Nat.reduceEqDiff, Nat.reduceAdd, Nat.reduceSub, Nat.reduceMul, Int.reduceNeg, Nat.reduceLT, Int.reduceToNat, Nat.reduceLeDiff, Nat.sub_zero])
  by_cases g4 : 0 ≤ d
  rotate_left
  · (try simp (maxSteps := 1000000) (dsimp := false) (disch := (first | omega | (simp only [okR]; done) | (simp only [sizeR] <;> omega) | fail)) only [↓preR, postR, ↓w_join, Nat.reduceEqDiff, Nat.reduceAdd, Nat.reduceSub, Nat.reduceMul, Int.reduceNeg, Nat.reduceLT, Int.reduceToNat, Nat.reduceLeDiff, Nat.sub_zero, F5])
    refine awake_c h1 fun σ' => ?_
    (try simp (maxSteps := 1000000) (dsimp := false) (disch := (first | omega | (simp only [okR]; done) | (simp only [sizeR] <;> omega) | fail)) only [↓preR, postR, ↓w_join, Nat.reduceEqDiff, Nat.reduceAdd, Nat.reduceSub, Nat.reduceMul, Int.reduceNeg, Nat.reduceLT, Int.reduceToNat, Nat.reduceLeDiff, Nat.sub_zero])
  by_cases g5 : d ≤ 4096
  rotate_left
  · (try simp (maxSteps := 1000000) (dsimp := false) (disch := (first | omega | (simp only [okR]; done) | (simp only [sizeR] <;> omega) | fail)) only [↓preR, postR, ↓w_join, Nat.reduceEqDiff, Nat.reduceAdd, Nat.reduceSub, Nat.reduceMul, Int.reduceNeg, Nat.reduceLT, Int.reduceToNat, Nat.reduceLeDiff, Nat.sub_zero, F5])
    refine awake_c h1 fun σ' => ?_
    (try simp (maxSteps := 1000000) (dsimp := false) (disch := (first | omega | (simp only [okR]; done) | (simp only [sizeR] <;> omega) | fail)) only [↓preR, postR, ↓w_join, Nat.reduceEqDiff, Nat.reduceAdd, Nat.reduceSub, Nat.reduceMul, Int.reduceNeg, Nat.reduceLT, Int.reduceToNat, Nat.reduceLeDiff, Nat.sub_zero])
  obtain ⟨a, rfl⟩ : ∃ a : Nat, c = a := ⟨c.toNat, by omega⟩
  obtain ⟨b, rfl⟩ : ∃ b : Nat, d = b := ⟨d.toNat, by omega⟩
  (simp (maxSteps := 1000000) (dsimp := false) (disch := (first | omega | (simp only [okR]; done) | (simp only [sizeR] <;> omega) | fail)) only [↓preR, postR, ↓w_join, Nat.reduceEqDiff, Nat.reduceAdd, Nat.reduceSub, Nat.reduceMul, Int.reduceNeg, Nat.reduceLT, Int.reduceToNat, Nat.reduceLeDiff, Nat.sub_zero, F5])
  refine vnew_c h1 (fun hb => by omega) (fun t σ1 _ _ _ _ h2 => ?_)
  (simp (maxSteps := 1000000) (dsimp := false) (disch := (first | omega | (simp only [okR]; done) | (simp only [sizeR] <;> omega) | fail)) only [↓preR, postR, ↓w_join, Nat.reduceEqDiff, Nat.reduceAdd, Nat.reduceSub, Nat.reduceMul, Int.reduceNeg, Nat.reduceLT, Int.reduceToNat, Nat.reduceLeDiff, Nat.sub_zero])
  refine emake h2 (mk1 0) fun σ2 h3 => ?_
  (simp (maxSteps := 1000000) (dsimp := false) (disch := (first | omega | (simp only [okR]; done) | (simp only [sizeR] <;> omega) | fail)) only [↓preR, postR, ↓w_join, Nat.reduceEqDiff, Nat.reduceAdd, Nat.reduceSub, Nat.reduceMul, Int.reduceNeg, Nat.reduceLT, Int.reduceToNat, Nat.reduceLeDiff, Nat.sub_zero])
  obtain ⟨hs, hr⟩ := cr0 data
  refine ewrite (m := data.length) h3 (by decide) (by omega) (fun d hd _ _ => ?_) hr fun σ3 h4 => ?_
  · obtain rfl : nvW rep64 [] = d := Option.some.inj hd
    exact many_all rep64_len (by decide) (by simp; omega)
  (simp (maxSteps := 1000000) (dsimp := false) (disch := (first | omega | (simp only [okR]; done) | (simp only [sizeR] <;> omega) | fail)) only [↓preR, postR, ↓w_join, Nat.reduceEqDiff, Nat.reduceAdd, Nat.reduceSub, Nat.reduceMul, Int.reduceNeg, Nat.reduceLT, Int.reduceToNat, Nat.reduceLeDiff, Nat.sub_zero, h4.obj1])
  obtain ⟨hs2, hr2⟩ := cr1 hs data a (by omega)
  refine ecut h4 (by omega) hr2 fun σ4 h5 => ?_
  (simp (maxSteps := 1000000) (dsimp := false) (disch := (first | omega | (simp only [okR]; done) | (simp only [sizeR] <;> omega) | fail)) only [↓preR, postR, ↓w_join, Nat.reduceEqDiff, Nat.reduceAdd, Nat.reduceSub, Nat.reduceMul, Int.reduceNeg, Nat.reduceLT, Int.reduceToNat, Nat.reduceLeDiff, Nat.sub_zero, h5.obj1])
  obtain ⟨hs3, hr3⟩ := cr1 hs2 ((data ++ List.replicate (a - data.length) 0).take a) b (by omega)
  refine ecut h5 (by omega) hr3 fun σ5 h6 => ?_
  have e1 : ((data ++ List.replicate (a - data.length) (0 : UInt8)).take a).length = a := by simp; omega
  rw [e1, cut_eq] at h6
  obtain ⟨m, hm⟩ : ∃ m, m = min (min data.length a) b := ⟨_, rfl⟩
  rw [← hm] at h6
  (simp (maxSteps := 1000000) (dsimp := false) (disch := (first | omega | (simp only [okR]; done) | (simp only [sizeR] <;> omega) | fail)) only [↓preR, postR, ↓w_join, Nat.reduceEqDiff, Nat.reduceAdd, Nat.reduceSub, Nat.reduceMul, Int.reduceNeg, Nat.reduceLT, Int.reduceToNat, Nat.reduceLeDiff, Nat.sub_zero, h6.obj1])
  refine min3_by ?_
  have hmn : min (min (data.length : Int) (a : Int)) (b : Int) = (m : Int) := by omega
  rw [hmn]
  refine eread h6 (d := nvW hs3 (data.take m ++ List.replicate (b - m) 0)) rfl (by decide) (by decide) fun σ6 h7 => ?_
  rw [rd0 _ _ (by simp; omega)]
  have ez : ((b : Int) - (m : Int)).toNat = b - m := by omega
  (simp (maxSteps := 1000000) (dsimp := false) (disch := (first | omega | (simp only [okR]; done) | (simp only [sizeR] <;> omega) | fail)) only [↓preR, postR, ↓w_join, Nat.reduceEqDiff, Nat.reduceAdd, Nat.reduceSub, Nat.reduceMul, Int.reduceNeg, Nat.reduceLT, Int.reduceToNat, Nat.reduceLeDiff, Nat.sub_zero, h7.obj1, ez])
  refine cvb_all (l := List.replicate (b - m) 0) (new_eq_.trans (by simp)) (by simp) ?_
  (simp (maxSteps := 1000000) (dsimp := false) (disch := (first | omega | (simp only [okR]; done) | (simp only [sizeR] <;> omega) | fail)) only [↓preR, postR, ↓w_join, Nat.reduceEqDiff, Nat.reduceAdd, Nat.reduceSub, Nat.reduceMul, Int.reduceNeg, Nat.reduceLT, Int.reduceToNat, Nat.reduceLeDiff, Nat.sub_zero])
  refine awake_c (h7.junk _) fun σ7 => ?_
  (try simp (maxSteps := 1000000) (dsimp := false) (disch := (first | omega | (simp only [okR]; done) | (simp only [sizeR] <;> omega) | fail)) only [↓preR, postR, ↓w_join, Nat.reduceEqDiff, Nat.reduceAdd, Nat.reduceSub, Nat.reduceMul, Int.reduceNeg, Nat.reduceLT, Int.reduceToNat, Nat.reduceLeDiff, Nat.sub_zero])
theorem cuts_law {v0 v1 : Value} {c : Ce} (h : Hs σ X []) (A0 : OV c (shOf Try.prog 8 9) v0) (A1 : OV c (shOf Try.prog 8 38) v1) :
    kCall Try.prog 5 [v0, v1] σ fun v _ => v = .bool true := by
  rw [show shOf Try.prog 8 9 = .str from by kernel_rfl] at A0
  rw [show shOf Try.prog 8 38 = .fld 1 (.int .i64) (.fld 1 (.int .i64) .fin) from by kernel_rfl] at A1
  obtain ⟨data, rfl, h0⟩ := arg_str A0
  obtain ⟨⟨c, d⟩, cs, rfl, x, y, rfl, ⟨rfl, h1⟩, rfl, h2⟩ := arg_agg (α := Int × Int) A1
  exact cuts_walk h h0 h1 h2
end
end Go.Proofs.Ytmkiaoddkodngaa
