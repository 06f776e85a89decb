/- Variables, as the document's answer has them: each call. Conditions: as each theorem says. -/
import Derived.Test.YtpnefcapiiemdaaGreatDoorVaW
namespace Go.Proofs.YtpnefcapiiemdaaGreatDoor
open E Go.Lib
set_option linter.unusedVariables false
set_option linter.unusedSimpArgs false
set_option maxHeartbeats 1000000
set_option maxRecDepth 20000
abbrev RfL (lv : Value) (r : Nat) (zero : Str) (av : Value) (st : Int) (L : List FV) (R : List Ck) : List Ck := VarR lv L :: Cel r [lv, .string (bs zero), av, .int .i64 st] :: R
/-- What is asked of the names. -/
structure NmP (S S' : VM) : Prop where
  ok : ∀ p, p ∈ allV S.l → FvOk p
  len : S.l.length ≤ 1000000
  nd : (S.l.map (·.1)).Nodup
  nd' : (S'.l.map (·.1)).Nodup
section
variable {σ σ' : AS} {X : Ce} {R : List Ck} {k : Value → AS → Prop} {r : Nat} {lv av u : Value} {zero n val : Str} {st q i : Int} {L : List FV} {x' : VV} {S : VM} {ms : List Str} {w : Bool}
theorem rput_c (hok : ∀ p, p ∈ allV S.l → FvOk p) (hl : S.l.length ≤ 1000000) (hd : (S.l.map (·.1)).Nodup) (hd' : ((turnV S.l n x').map (·.1)).Nodup) (hn : n.length ≤ maxLen) (hx : x'.val.length ≤ maxLen)
    (h : Hs σ X (RfL lv r zero av st (allV S.l) R)) (hk : ∀ lv' w σ', Hs σ' X (RfL lv' r zero av st (allV (turnV S.l n x')) R) → k w σ') :
    kCall Tryz.prog 42 [pv r, .agg (celF (fvOf n x')).toArray] σ k := by
  refine put_c hok ⟨hn, hx⟩ (by rw [all_len]; exact hl) h fun lv' w σ' h1 => ?_
  have e := put_all (n := n) (x' := x') hd hd'
  rw [← e] at hk
  exact hk lv' w σ' h1
theorem rset_c (hP : NmP S (setV S n val).2) (hn : n.length ≤ maxLen) (hv : val.length ≤ maxLen) (h : Hs σ X (RfL lv r zero av st (allV S.l) R))
    (hk : ∀ lv' σ', Hs σ' X (RfL lv' r zero av st (allV (setV S n val).2.l) R) → k (.int .i64 (setV S n val).1) σ') :
    kCall Tryz.prog 26 [pv r, .string (bs n), .string (bs val)] σ k := by
  obtain ⟨hok, hl, hd, hd'⟩ := hP
  unfold setV turnE at hk hd'
  refine f26 ?_
  (try simp (maxSteps := 1000000) (dsimp := false) (disch := (first | omega | (simp only [okR]; done) | (simp only [sizeR] <;> omega) | fail)) only [↓preR, postR, ↓w_stop, Nat.reduceEqDiff, Nat.reduceAdd, Nat.reduceSub, Nat.reduceMul, Int.reduceNeg, Nat.reduceLT, Int.reduceToNat, Nat.reduceLeDiff, Nat.sub_zero, F26])
  refine join_now ?_
  (try simp (maxSteps := 1000000) (dsimp := false) (disch := (first | omega | (simp only [okR]; done) | (simp only [sizeR] <;> omega) | fail)) only [↓preR, postR, ↓w_stop, Nat.reduceEqDiff, Nat.reduceAdd, Nat.reduceSub, Nat.reduceMul, Int.reduceNeg, Nat.reduceLT, Int.reduceToNat, Nat.reduceLeDiff, Nat.sub_zero])
  refine rname_c hn ?_
  cases hN : nameB n with
  | false =>
    rw [if_pos hN] at hk
    (try simp (maxSteps := 1000000) (dsimp := false) (disch := (first | omega | (simp only [okR]; done) | (simp only [sizeR] <;> omega) | fail)) only [↓preR, postR, ↓w_stop, Nat.reduceEqDiff, Nat.reduceAdd, Nat.reduceSub, Nat.reduceMul, Int.reduceNeg, Nat.reduceLT, Int.reduceToNat, Nat.reduceLeDiff, Nat.sub_zero])
    exact hk _ _ h
  | true =>
    rw [if_neg (by rw [hN]; decide)] at hk hd'
    (try simp (maxSteps := 1000000) (dsimp := false) (disch := (first | omega | (simp only [okR]; done) | (simp only [sizeR] <;> omega) | fail)) only [↓preR, postR, ↓w_stop, Nat.reduceEqDiff, Nat.reduceAdd, Nat.reduceSub, Nat.reduceMul, Int.reduceNeg, Nat.reduceLT, Int.reduceToNat, Nat.reduceLeDiff, Nat.sub_zero])
    refine find_c h fun σ1 h1 => ?_
    rw [find_all]
    have h2 := (h1.new (cs := celF zF)).put (cs' := celF (fvOf (nmV S.l n) (getV S.l n)))
    (try simp (maxSteps := 1000000) (dsimp := false) (disch := (first | omega | (simp only [okR]; done) | (simp only [sizeR] <;> omega) | fail)) only [↓preR, postR, ↓w_stop, Nat.reduceEqDiff, Nat.reduceAdd, Nat.reduceSub, Nat.reduceMul, Int.reduceNeg, Nat.reduceLT, Int.reduceToNat, Nat.reduceLeDiff, Nat.sub_zero, h2.obj])
    refine join_now ?_
    cases hr : (getV S.l n).ro with
    | true =>
      rw [hr, if_pos (by rfl)] at hk
      (try simp (maxSteps := 1000000) (dsimp := false) (disch := (first | omega | (simp only [okR]; done) | (simp only [sizeR] <;> omega) | fail)) only [↓preR, postR, ↓w_stop, Nat.reduceEqDiff, Nat.reduceAdd, Nat.reduceSub, Nat.reduceMul, Int.reduceNeg, Nat.reduceLT, Int.reduceToNat, Nat.reduceLeDiff, Nat.sub_zero, h2.obj, hr])
      exact hk _ _ h2.drop
    | false =>
      rw [hr, if_neg (by simp)] at hk hd'
      (try simp (maxSteps := 1000000) (dsimp := false) (disch := (first | omega | (simp only [okR]; done) | (simp only [sizeR] <;> omega) | fail)) only [↓preR, postR, ↓w_stop, Nat.reduceEqDiff, Nat.reduceAdd, Nat.reduceSub, Nat.reduceMul, Int.reduceNeg, Nat.reduceLT, Int.reduceToNat, Nat.reduceLeDiff, Nat.sub_zero, h2.obj, hr])
      refine rput_c (n := n) (x' := ⟨val, true, (getV S.l n).exp, false⟩) hok hl hd hd' hn hv h2.drop fun lv' w σ' h3 => ?_
      (try simp (maxSteps := 1000000) (dsimp := false) (disch := (first | omega | (simp only [okR]; done) | (simp only [sizeR] <;> omega) | fail)) only [↓preR, postR, ↓w_join, Nat.reduceEqDiff, Nat.reduceAdd, Nat.reduceSub, Nat.reduceMul, Int.reduceNeg, Nat.reduceLT, Int.reduceToNat, Nat.reduceLeDiff, Nat.sub_zero])
      exact hk _ _ h3
theorem runset_c (hP : NmP S (unsetV S n).2) (hn : n.length ≤ maxLen) (h : Hs σ X (RfL lv r zero av st (allV S.l) R))
    (hk : ∀ lv' σ', Hs σ' X (RfL lv' r zero av st (allV (unsetV S n).2.l) R) → k (.int .i64 (unsetV S n).1) σ') :
    kCall Tryz.prog 23 [pv r, .string (bs n)] σ k := by
  obtain ⟨hok, hl, hd, hd'⟩ := hP
  unfold unsetV turnE at hk hd'
  refine f23 ?_
  (try simp (maxSteps := 1000000) (dsimp := false) (disch := (first | omega | (simp only [okR]; done) | (simp only [sizeR] <;> omega) | fail)) only [↓preR, postR, ↓w_stop, Nat.reduceEqDiff, Nat.reduceAdd, Nat.reduceSub, Nat.reduceMul, Int.reduceNeg, Nat.reduceLT, Int.reduceToNat, Nat.reduceLeDiff, Nat.sub_zero, F23])
  refine join_now ?_
  (try simp (maxSteps := 1000000) (dsimp := false) (disch := (first | omega | (simp only [okR]; done) | (simp only [sizeR] <;> omega) | fail)) only [↓preR, postR, ↓w_stop, Nat.reduceEqDiff, Nat.reduceAdd, Nat.reduceSub, Nat.reduceMul, Int.reduceNeg, Nat.reduceLT, Int.reduceToNat, Nat.reduceLeDiff, Nat.sub_zero])
  refine rname_c hn ?_
  cases hN : nameB n with
  | false =>
    rw [if_pos hN] at hk
    (try simp (maxSteps := 1000000) (dsimp := false) (disch := (first | omega | (simp only [okR]; done) | (simp only [sizeR] <;> omega) | fail)) only [↓preR, postR, ↓w_stop, Nat.reduceEqDiff, Nat.reduceAdd, Nat.reduceSub, Nat.reduceMul, Int.reduceNeg, Nat.reduceLT, Int.reduceToNat, Nat.reduceLeDiff, Nat.sub_zero])
    exact hk _ _ h
  | true =>
    rw [if_neg (by rw [hN]; decide)] at hk hd'
    (try simp (maxSteps := 1000000) (dsimp := false) (disch := (first | omega | (simp only [okR]; done) | (simp only [sizeR] <;> omega) | fail)) only [↓preR, postR, ↓w_stop, Nat.reduceEqDiff, Nat.reduceAdd, Nat.reduceSub, Nat.reduceMul, Int.reduceNeg, Nat.reduceLT, Int.reduceToNat, Nat.reduceLeDiff, Nat.sub_zero])
    refine join_now ?_
    (try simp (maxSteps := 1000000) (dsimp := false) (disch := (first | omega | (simp only [okR]; done) | (simp only [sizeR] <;> omega) | fail)) only [↓preR, postR, ↓w_stop, Nat.reduceEqDiff, Nat.reduceAdd, Nat.reduceSub, Nat.reduceMul, Int.reduceNeg, Nat.reduceLT, Int.reduceToNat, Nat.reduceLeDiff, Nat.sub_zero])
    refine find_c h fun σ1 h1 => ?_
    rw [find_all]
    cases hr : (getV S.l n).ro with
    | true =>
      rw [hr, if_pos (by rfl)] at hk
      (try simp (maxSteps := 1000000) (dsimp := false) (disch := (first | omega | (simp only [okR]; done) | (simp only [sizeR] <;> omega) | fail)) only [↓preR, postR, ↓w_stop, Nat.reduceEqDiff, Nat.reduceAdd, Nat.reduceSub, Nat.reduceMul, Int.reduceNeg, Nat.reduceLT, Int.reduceToNat, Nat.reduceLeDiff, Nat.sub_zero, hr])
      exact hk _ _ h1
    | false =>
      rw [hr, if_neg (by simp)] at hk hd'
      (try simp (maxSteps := 1000000) (dsimp := false) (disch := (first | omega | (simp only [okR]; done) | (simp only [sizeR] <;> omega) | fail)) only [↓preR, postR, ↓w_stop, Nat.reduceEqDiff, Nat.reduceAdd, Nat.reduceSub, Nat.reduceMul, Int.reduceNeg, Nat.reduceLT, Int.reduceToNat, Nat.reduceLeDiff, Nat.sub_zero, hr])
      refine rput_c (n := n) (x' := z0) hok hl hd hd' hn (by unfold maxLen; simp) h1 fun lv' w σ' h3 => ?_
      (try simp (maxSteps := 1000000) (dsimp := false) (disch := (first | omega | (simp only [okR]; done) | (simp only [sizeR] <;> omega) | fail)) only [↓preR, postR, ↓w_join, Nat.reduceEqDiff, Nat.reduceAdd, Nat.reduceSub, Nat.reduceMul, Int.reduceNeg, Nat.reduceLT, Int.reduceToNat, Nat.reduceLeDiff, Nat.sub_zero])
      exact hk _ _ h3
/-- A mark: Export, or Readonly. -/
def markV (S : VM) (n : Str) (w : Bool) : Int × VM := if w then roV S n else exportV S n
theorem rmark_c (hP : NmP S (markV S n w).2) (hn : n.length ≤ maxLen) (hg : (getV S.l n).val.length ≤ maxLen) (h : Hs σ X (RfL lv r zero av st (allV S.l) R))
    (hk : ∀ lv' σ', Hs σ' X (RfL lv' r zero av st (allV (markV S n w).2.l) R) → k (.int .i64 (markV S n w).1) σ') :
    kCall Tryz.prog 24 [pv r, .string (bs n), .bool w] σ k := by
  have hF : ¬ nameB n = false → nameB n = true := fun h => by cases hN : nameB n with | true => rfl | false => exact absurd hN h
  cases w with
  | true =>
    obtain ⟨hok, hl, hd, hd'⟩ := hP
    replace hk : ∀ lv' σ', Hs σ' X (RfL lv' r zero av st (allV (roV S n).2.l) R) → k (.int .i64 (roV S n).1) σ' := hk
    replace hd' : ((roV S n).2.l.map (·.1)).Nodup := hd'
    unfold roV turnE at hk hd'
    refine f24 ?_
    (try simp (maxSteps := 1000000) (dsimp := false) (disch := (first | omega | (simp only [okR]; done) | (simp only [sizeR] <;> omega) | fail)) only [↓preR, postR, ↓w_stop, Nat.reduceEqDiff, Nat.reduceAdd, Nat.reduceSub, Nat.reduceMul, Int.reduceNeg, Nat.reduceLT, Int.reduceToNat, Nat.reduceLeDiff, Nat.sub_zero, F24])
    refine join_now ?_
    (try simp (maxSteps := 1000000) (dsimp := false) (disch := (first | omega | (simp only [okR]; done) | (simp only [sizeR] <;> omega) | fail)) only [↓preR, postR, ↓w_stop, Nat.reduceEqDiff, Nat.reduceAdd, Nat.reduceSub, Nat.reduceMul, Int.reduceNeg, Nat.reduceLT, Int.reduceToNat, Nat.reduceLeDiff, Nat.sub_zero])
    refine rname_c hn ?_
    by_cases hN : nameB n = false
    · rw [if_pos hN] at hk
      (try simp (maxSteps := 1000000) (dsimp := false) (disch := (first | omega | (simp only [okR]; done) | (simp only [sizeR] <;> omega) | fail)) only [↓preR, postR, ↓w_stop, Nat.reduceEqDiff, Nat.reduceAdd, Nat.reduceSub, Nat.reduceMul, Int.reduceNeg, Nat.reduceLT, Int.reduceToNat, Nat.reduceLeDiff, Nat.sub_zero, hN])
      exact hk _ _ h
    rw [if_neg hN] at hk hd'
    simp only [Bool.false_and, Bool.false_eq_true, if_false] at hk hd'
    rw [hF hN]
    (try simp (maxSteps := 1000000) (dsimp := false) (disch := (first | omega | (simp only [okR]; done) | (simp only [sizeR] <;> omega) | fail)) only [↓preR, postR, ↓w_stop, Nat.reduceEqDiff, Nat.reduceAdd, Nat.reduceSub, Nat.reduceMul, Int.reduceNeg, Nat.reduceLT, Int.reduceToNat, Nat.reduceLeDiff, Nat.sub_zero])
    refine find_c h fun σ1 h1 => ?_
    rw [find_all]
    have h2 := (h1.new (cs := celF zF)).put (cs' := celF (fvOf (nmV S.l n) (getV S.l n)))
    have h3 := (h1.new (cs := celF zF)).put (cs' := celF (fvOf n (getV S.l n)))
    have h4 := (h1.new (cs := celF zF)).put (cs' := celF (fvOf n ⟨(getV S.l n).val, (getV S.l n).set, (getV S.l n).exp, true⟩))
    (try simp (maxSteps := 1000000) (dsimp := false) (disch := (first | omega | (simp only [okR]; done) | (simp only [sizeR] <;> omega) | fail)) only [↓preR, postR, ↓w_stop, Nat.reduceEqDiff, Nat.reduceAdd, Nat.reduceSub, Nat.reduceMul, Int.reduceNeg, Nat.reduceLT, Int.reduceToNat, Nat.reduceLeDiff, Nat.sub_zero, h2.obj, h3.obj])
    refine join_now ?_
    (try simp (maxSteps := 1000000) (dsimp := false) (disch := (first | omega | (simp only [okR]; done) | (simp only [sizeR] <;> omega) | fail)) only [↓preR, postR, ↓w_stop, Nat.reduceEqDiff, Nat.reduceAdd, Nat.reduceSub, Nat.reduceMul, Int.reduceNeg, Nat.reduceLT, Int.reduceToNat, Nat.reduceLeDiff, Nat.sub_zero, h2.obj, h3.obj, h4.obj])
    refine rput_c (n := n) (x' := ⟨(getV S.l n).val, (getV S.l n).set, (getV S.l n).exp, true⟩) hok hl hd hd' hn hg h4.drop fun lv' w σ' h5 => ?_
    (try simp (maxSteps := 1000000) (dsimp := false) (disch := (first | omega | (simp only [okR]; done) | (simp only [sizeR] <;> omega) | fail)) only [↓preR, postR, ↓w_join, Nat.reduceEqDiff, Nat.reduceAdd, Nat.reduceSub, Nat.reduceMul, Int.reduceNeg, Nat.reduceLT, Int.reduceToNat, Nat.reduceLeDiff, Nat.sub_zero])
    exact hk _ _ h5
  | false =>
    obtain ⟨hok, hl, hd, hd'⟩ := hP
    replace hk : ∀ lv' σ', Hs σ' X (RfL lv' r zero av st (allV (exportV S n).2.l) R) → k (.int .i64 (exportV S n).1) σ' := hk
    replace hd' : ((exportV S n).2.l.map (·.1)).Nodup := hd'
    unfold exportV turnE at hk hd'
    refine f24 ?_
    (try simp (maxSteps := 1000000) (dsimp := false) (disch := (first | omega | (simp only [okR]; done) | (simp only [sizeR] <;> omega) | fail)) only [↓preR, postR, ↓w_stop, Nat.reduceEqDiff, Nat.reduceAdd, Nat.reduceSub, Nat.reduceMul, Int.reduceNeg, Nat.reduceLT, Int.reduceToNat, Nat.reduceLeDiff, Nat.sub_zero, F24])
    refine join_now ?_
    (try simp (maxSteps := 1000000) (dsimp := false) (disch := (first | omega | (simp only [okR]; done) | (simp only [sizeR] <;> omega) | fail)) only [↓preR, postR, ↓w_stop, Nat.reduceEqDiff, Nat.reduceAdd, Nat.reduceSub, Nat.reduceMul, Int.reduceNeg, Nat.reduceLT, Int.reduceToNat, Nat.reduceLeDiff, Nat.sub_zero])
    refine rname_c hn ?_
    by_cases hN : nameB n = false
    · rw [if_pos hN] at hk
      (try simp (maxSteps := 1000000) (dsimp := false) (disch := (first | omega | (simp only [okR]; done) | (simp only [sizeR] <;> omega) | fail)) only [↓preR, postR, ↓w_stop, Nat.reduceEqDiff, Nat.reduceAdd, Nat.reduceSub, Nat.reduceMul, Int.reduceNeg, Nat.reduceLT, Int.reduceToNat, Nat.reduceLeDiff, Nat.sub_zero, hN])
      exact hk _ _ h
    rw [if_neg hN] at hk hd'
    simp only [Bool.false_and, Bool.false_eq_true, if_false] at hk hd'
    rw [hF hN]
    (try simp (maxSteps := 1000000) (dsimp := false) (disch := (first | omega | (simp only [okR]; done) | (simp only [sizeR] <;> omega) | fail)) only [↓preR, postR, ↓w_stop, Nat.reduceEqDiff, Nat.reduceAdd, Nat.reduceSub, Nat.reduceMul, Int.reduceNeg, Nat.reduceLT, Int.reduceToNat, Nat.reduceLeDiff, Nat.sub_zero])
    refine find_c h fun σ1 h1 => ?_
    rw [find_all]
    have h2 := (h1.new (cs := celF zF)).put (cs' := celF (fvOf (nmV S.l n) (getV S.l n)))
    have h3 := (h1.new (cs := celF zF)).put (cs' := celF (fvOf n (getV S.l n)))
    have h4 := (h1.new (cs := celF zF)).put (cs' := celF (fvOf n ⟨(getV S.l n).val, (getV S.l n).set, true, (getV S.l n).ro⟩))
    (try simp (maxSteps := 1000000) (dsimp := false) (disch := (first | omega | (simp only [okR]; done) | (simp only [sizeR] <;> omega) | fail)) only [↓preR, postR, ↓w_stop, Nat.reduceEqDiff, Nat.reduceAdd, Nat.reduceSub, Nat.reduceMul, Int.reduceNeg, Nat.reduceLT, Int.reduceToNat, Nat.reduceLeDiff, Nat.sub_zero, h2.obj, h3.obj])
    refine join_now ?_
    (try simp (maxSteps := 1000000) (dsimp := false) (disch := (first | omega | (simp only [okR]; done) | (simp only [sizeR] <;> omega) | fail)) only [↓preR, postR, ↓w_stop, Nat.reduceEqDiff, Nat.reduceAdd, Nat.reduceSub, Nat.reduceMul, Int.reduceNeg, Nat.reduceLT, Int.reduceToNat, Nat.reduceLeDiff, Nat.sub_zero, h2.obj, h3.obj, h4.obj])
    refine rput_c (n := n) (x' := ⟨(getV S.l n).val, (getV S.l n).set, true, (getV S.l n).ro⟩) hok hl hd hd' hn hg h4.drop fun lv' w σ' h5 => ?_
    (try simp (maxSteps := 1000000) (dsimp := false) (disch := (first | omega | (simp only [okR]; done) | (simp only [sizeR] <;> omega) | fail)) only [↓preR, postR, ↓w_join, Nat.reduceEqDiff, Nat.reduceAdd, Nat.reduceSub, Nat.reduceMul, Int.reduceNeg, Nat.reduceLT, Int.reduceToNat, Nat.reduceLeDiff, Nat.sub_zero])
    exact hk _ _ h5
theorem rget_c (h : Hs σ X (RfL lv r zero av st (allV S.l) R)) (hk : ∀ σ', Hs σ' X (RfL lv r zero av st (allV S.l) R) → k (.tuple #[.string (bs (getV S.l n).val), .bool (getV S.l n).set]) σ') :
    kCall Tryz.prog 32 [pv r, .string (bs n)] σ k := by
  refine f32 ?_
  (try simp (maxSteps := 1000000) (dsimp := false) (disch := (first | omega | (simp only [okR]; done) | (simp only [sizeR] <;> omega) | fail)) only [↓preR, postR, ↓w_stop, Nat.reduceEqDiff, Nat.reduceAdd, Nat.reduceSub, Nat.reduceMul, Int.reduceNeg, Nat.reduceLT, Int.reduceToNat, Nat.reduceLeDiff, Nat.sub_zero, F32])
  refine find_c h fun σ1 h1 => ?_
  rw [find_all]
  have h2 := (h1.new (cs := celF zF)).put (cs' := celF (fvOf (nmV S.l n) (getV S.l n)))
  (try simp (maxSteps := 1000000) (dsimp := false) (disch := (first | omega | (simp only [okR]; done) | (simp only [sizeR] <;> omega) | fail)) only [↓preR, postR, ↓w_stop, Nat.reduceEqDiff, Nat.reduceAdd, Nat.reduceSub, Nat.reduceMul, Int.reduceNeg, Nat.reduceLT, Int.reduceToNat, Nat.reduceLeDiff, Nat.sub_zero, h2.obj])
  exact hk _ h2.drop
/-- A list of the data that stay without its first ones. -/
theorem rep_drop {j : Nat} (h : RepL X av ms) (hj : j ≤ ms.length) : ∃ v', subLV 1 av (some (.int .i64 j)) none = some v' ∧ RepL X v' (ms.drop j) := by
  obtain ⟨a, cap, rfl, h2, h3, h4⟩ := h
  refine ⟨.slice (if cap = j then a else a.map (·.add j)) (ms.length - j) (cap - j), (sub_l _ _ _ _ _ _).trans ?_, ?_⟩
  · rw [bnd_s, bnd_n, some_bind, some_bind, cut_in 1 _ _ _ _ (by omega) (by omega) (by omega)]
    have e1 : ((j : Int)).toNat = j := by omega
    have e2 : ((ms.length : Int)).toNat = ms.length := by omega
    rw [e1, e2, Nat.mul_one]
  · refine ⟨_, cap - j, by rw [List.length_drop], by rw [List.length_drop]; omega, by omega, ?_⟩
    by_cases hl : j = ms.length
    · left; rw [hl]; exact List.drop_of_length_le (Nat.le_refl _)
    · right
      rcases h4 with rfl | ⟨b, o, rfl, h6⟩
      · simp at hj; simp [hj] at hl
      · have hc : ¬ cap = j := by omega
        rw [if_neg hc]
        refine ⟨b, o + j, by rw [Option.map_some, E.add_eq], fun i hi => ?_⟩
        rw [List.length_drop] at hi
        obtain ⟨cs, h7, h8⟩ := h6 (j + i) (by omega)
        refine ⟨cs, by rw [List.getElem_drop]; exact h7, fun a v hv => ?_⟩
        have := h8 a v hv
        have e : o + j + i * Rp.sz Str + a = o + (j + i) * Rp.sz Str + a := by
          show o + j + i * 1 + a = o + (j + i) * 1 + a
          omega
        rw [e]; exact this
theorem rshift_c (hr : RepL X av S.ar) (hi : inI64 i) (h : Hs σ X (Cel r [lv, .string (bs zero), av, .int .i64 st] :: R))
    (hk : ∀ av' σ', RepL X av' (shiftV S i).2.ar → Hs σ' X (Cel r [lv, .string (bs zero), av', .int .i64 st] :: R) → k (.int .i64 (shiftV S i).1) σ') :
    kCall Tryz.prog 25 [pv r, .int .i64 i] σ k := by
  refine f25 ?_
  have hr0 := hr
  obtain ⟨a, cap, rfl, hle, hcm, _⟩ := hr0
  unfold maxLen at hcm
  unfold shiftV at hk
  (try simp (maxSteps := 1000000) (dsimp := false) (disch := (first | omega | (simp only [okR]; done) | (simp only [sizeR] <;> omega) | fail)) only [↓preR, postR, ↓w_stop, Nat.reduceEqDiff, Nat.reduceAdd, Nat.reduceSub, Nat.reduceMul, Int.reduceNeg, Nat.reduceLT, Int.reduceToNat, Nat.reduceLeDiff, Nat.sub_zero, F25])
  refine join_now ?_
  (try simp (maxSteps := 1000000) (dsimp := false) (disch := (first | omega | (simp only [okR]; done) | (simp only [sizeR] <;> omega) | fail)) only [↓preR, postR, ↓w_stop, Nat.reduceEqDiff, Nat.reduceAdd, Nat.reduceSub, Nat.reduceMul, Int.reduceNeg, Nat.reduceLT, Int.reduceToNat, Nat.reduceLeDiff, Nat.sub_zero])
  refine grd_or (b := decide ((S.ar.length : Int) < i)) (fun _ k' hk' => ?_) ?_
  · (try simp (maxSteps := 1000000) (dsimp := false) (disch := (first | omega | (simp only [okR]; done) | (simp only [sizeR] <;> omega) | fail)) only [↓preR, postR, ↓w_stop, Nat.reduceEqDiff, Nat.reduceAdd, Nat.reduceSub, Nat.reduceMul, Int.reduceNeg, Nat.reduceLT, Int.reduceToNat, Nat.reduceLeDiff, Nat.sub_zero, h.obj])
    exact hk'
  by_cases h0 : i < 0 ∨ (S.ar.length : Int) < i
  · rw [if_pos h0] at hk
    have : (decide (i < 0) || decide ((S.ar.length : Int) < i)) = true := by simpa using h0
    rw [this]
    (try simp (maxSteps := 1000000) (dsimp := false) (disch := (first | omega | (simp only [okR]; done) | (simp only [sizeR] <;> omega) | fail)) only [↓preR, postR, ↓w_stop, Nat.reduceEqDiff, Nat.reduceAdd, Nat.reduceSub, Nat.reduceMul, Int.reduceNeg, Nat.reduceLT, Int.reduceToNat, Nat.reduceLeDiff, Nat.sub_zero])
    exact hk _ _ hr h
  · rw [if_neg h0] at hk
    have : (decide (i < 0) || decide ((S.ar.length : Int) < i)) = false := by simpa using h0
    rw [this]
    obtain ⟨j, rfl⟩ : ∃ j : Nat, i = j := ⟨i.toNat, by omega⟩
    obtain ⟨v', e1, h4⟩ := rep_drop hr (j := j) (by omega)
    have h4' := h4
    obtain ⟨a2, cap2, rfl, _⟩ := h4'
    (try simp (maxSteps := 1000000) (dsimp := false) (disch := (first | omega | (simp only [okR]; done) | (simp only [sizeR] <;> omega) | fail)) only [↓preR, postR, ↓w_stop, Nat.reduceEqDiff, Nat.reduceAdd, Nat.reduceSub, Nat.reduceMul, Int.reduceNeg, Nat.reduceLT, Int.reduceToNat, Nat.reduceLeDiff, Nat.sub_zero, h.obj, ↓e1])
    exact hk _ _ h4 h.put
end
section
variable {σ σ' : AS} {X : Ce} {R : List Ck} {k : Value → AS → Prop} {r v : Nat} {lv av u a b : Value} {zero n val : Str} {st q i : Int} {L : List FV} {x' : VV} {S : VM} {ms l : List Str} {w : Bool}
theorem asked_c (hP : NmP S (doV (q, n, val, i, ms) S).2) (hg : (getV S.l n).val.length ≤ maxLen) (hra : RepL X av S.ar) (h : Hs σ X (RfL lv r zero av S.st (allV S.l) R)) (hq : inI64 q) (hn : n.length ≤ maxLen) (hv : val.length ≤ maxLen) (hi : inI64 i) (hr : RepL X u ms)
    (hk : ∀ lv' av' σ', RepL X av' (doV (q, n, val, i, ms) S).2.ar → Hs σ' X (RfL lv' r zero av' (doV (q, n, val, i, ms) S).2.st (allV (doV (q, n, val, i, ms) S).2.l) R) → k (.int .i64 (doV (q, n, val, i, ms) S).1) σ') :
    kCall Tryz.prog 8 [pv r, .agg (celO q n val i u).toArray] σ k := by
  obtain ⟨ua, uc, rfl, hr'⟩ := hr
  have hr : RepL X (.slice ua ms.length uc) ms := ⟨ua, uc, rfl, hr'⟩
  refine f8 ?_
  have h1 : Hs _ X (VarR lv (allV S.l) :: Cel r [lv, .string (bs zero), av, .int .i64 S.st] :: Cel σ.n (celO q n val i (.slice ua ms.length uc)) :: R) := (h.new (cs := celO q n val i (.slice ua ms.length uc))).un2
  have e1 := (h1.front 2 rfl).obj
  (try simp (maxSteps := 1000000) (dsimp := false) (disch := (first | omega | (simp only [okR]; done) | (simp only [sizeR] <;> omega) | fail)) only [↓preR, postR, ↓w_stop, Nat.reduceEqDiff, Nat.reduceAdd, Nat.reduceSub, Nat.reduceMul, Int.reduceNeg, Nat.reduceLT, Int.reduceToNat, Nat.reduceLeDiff, Nat.sub_zero, F8, e1])
  generalize AS.new σ _ = s1 at h1 e1 ⊢
  generalize σ.n = cb at h1 e1 ⊢
  refine join_now ?_
  (try simp (maxSteps := 1000000) (dsimp := false) (disch := (first | omega | (simp only [okR]; done) | (simp only [sizeR] <;> omega) | fail)) only [↓preR, postR, ↓w_stop, Nat.reduceEqDiff, Nat.reduceAdd, Nat.reduceSub, Nat.reduceMul, Int.reduceNeg, Nat.reduceLT, Int.reduceToNat, Nat.reduceLeDiff, Nat.sub_zero, e1])
  refine kind_c h1 hq fun σ1 h2 => ?_
  have e2 := (h2.front 2 rfl).obj
  have kr := kd_rng q
  have tS : ∀ S' : VM, S'.ar = S.ar → S'.st = S.st → True := fun _ _ _ => trivial
  clear tS
  have ear : ∀ {n w x'}, (turnE S n w x').2.ar = S.ar ∧ (turnE S n w x').2.st = S.st := by
    intro n w x'
    unfold turnE
    split
    · exact ⟨rfl, rfl⟩
    split <;> exact ⟨rfl, rfl⟩
  have dr : ∀ {σ' : AS} {lv' av' : Value} {st' : Int} {L' : List FV}, Hs σ' X (RfL lv' r zero av' st' L' (Cel cb (celO q n val i (.slice ua ms.length uc)) :: R)) → Hs σ' X (RfL lv' r zero av' st' L' R) := fun h => h.rot2.drop
  by_cases c2 : kd q = 2
  · have e : doV (q, n, val, i, ms) S = unsetV S n := by simp [doV, c2]
    rw [e] at hk hP
    (try simp (maxSteps := 1000000) (dsimp := false) (disch := (first | omega | (simp only [okR]; done) | (simp only [sizeR] <;> omega) | fail)) only [↓preR, postR, ↓w_stop, Nat.reduceEqDiff, Nat.reduceAdd, Nat.reduceSub, Nat.reduceMul, Int.reduceNeg, Nat.reduceLT, Int.reduceToNat, Nat.reduceLeDiff, Nat.sub_zero, c2, e2])
    refine runset_c hP hn h2 fun lv' σ2 h3 => ?_
    (try simp (maxSteps := 1000000) (dsimp := false) (disch := (first | omega | (simp only [okR]; done) | (simp only [sizeR] <;> omega) | fail)) only [↓preR, postR, ↓w_join, Nat.reduceEqDiff, Nat.reduceAdd, Nat.reduceSub, Nat.reduceMul, Int.reduceNeg, Nat.reduceLT, Int.reduceToNat, Nat.reduceLeDiff, Nat.sub_zero])
    have e4 : (unsetV S n).2.ar = S.ar ∧ (unsetV S n).2.st = S.st := ear
    rw [e4.1, e4.2] at hk
    exact hk _ _ _ hra (dr h3)
  by_cases c3 : kd q = 3
  · have e : doV (q, n, val, i, ms) S = exportV S n := by simp [doV, c3]
    rw [e] at hk hP
    (try simp (maxSteps := 1000000) (dsimp := false) (disch := (first | omega | (simp only [okR]; done) | (simp only [sizeR] <;> omega) | fail)) only [↓preR, postR, ↓w_stop, Nat.reduceEqDiff, Nat.reduceAdd, Nat.reduceSub, Nat.reduceMul, Int.reduceNeg, Nat.reduceLT, Int.reduceToNat, Nat.reduceLeDiff, Nat.sub_zero, c3, e2])
    refine rmark_c (w := false) (S := S) hP hn hg h2 fun lv' σ2 h3 => ?_
    (try simp (maxSteps := 1000000) (dsimp := false) (disch := (first | omega | (simp only [okR]; done) | (simp only [sizeR] <;> omega) | fail)) only [↓preR, postR, ↓w_join, Nat.reduceEqDiff, Nat.reduceAdd, Nat.reduceSub, Nat.reduceMul, Int.reduceNeg, Nat.reduceLT, Int.reduceToNat, Nat.reduceLeDiff, Nat.sub_zero])
    have e4 : (exportV S n).2.ar = S.ar ∧ (exportV S n).2.st = S.st := ear
    rw [e4.1, e4.2] at hk
    exact hk _ _ _ hra (dr h3)
  by_cases c4 : kd q = 4
  · have e : doV (q, n, val, i, ms) S = roV S n := by simp [doV, c4]
    rw [e] at hk hP
    (try simp (maxSteps := 1000000) (dsimp := false) (disch := (first | omega | (simp only [okR]; done) | (simp only [sizeR] <;> omega) | fail)) only [↓preR, postR, ↓w_stop, Nat.reduceEqDiff, Nat.reduceAdd, Nat.reduceSub, Nat.reduceMul, Int.reduceNeg, Nat.reduceLT, Int.reduceToNat, Nat.reduceLeDiff, Nat.sub_zero, c4, e2])
    refine rmark_c (w := true) (S := S) hP hn hg h2 fun lv' σ2 h3 => ?_
    (try simp (maxSteps := 1000000) (dsimp := false) (disch := (first | omega | (simp only [okR]; done) | (simp only [sizeR] <;> omega) | fail)) only [↓preR, postR, ↓w_join, Nat.reduceEqDiff, Nat.reduceAdd, Nat.reduceSub, Nat.reduceMul, Int.reduceNeg, Nat.reduceLT, Int.reduceToNat, Nat.reduceLeDiff, Nat.sub_zero])
    have e4 : (roV S n).2.ar = S.ar ∧ (roV S n).2.st = S.st := ear
    rw [e4.1, e4.2] at hk
    exact hk _ _ _ hra (dr h3)
  by_cases c5 : kd q = 5
  · have e : doV (q, n, val, i, ms) S = (0, ⟨ms, S.st, S.l⟩) := by simp [doV, c5]
    rw [e] at hk
    (try simp (maxSteps := 1000000) (dsimp := false) (disch := (first | omega | (simp only [okR]; done) | (simp only [sizeR] <;> omega) | fail)) only [↓preR, postR, ↓w_stop, Nat.reduceEqDiff, Nat.reduceAdd, Nat.reduceSub, Nat.reduceMul, Int.reduceNeg, Nat.reduceLT, Int.reduceToNat, Nat.reduceLeDiff, Nat.sub_zero, c5, e2, h2.obj1])
    exact hk _ _ _ hr (dr (h2.put1 (cs' := [lv, .string (bs zero), .slice ua ms.length uc, .int .i64 S.st])))
  by_cases c6 : kd q = 6
  · have e : doV (q, n, val, i, ms) S = shiftV S i := by simp [doV, c6]
    rw [e] at hk
    (try simp (maxSteps := 1000000) (dsimp := false) (disch := (first | omega | (simp only [okR]; done) | (simp only [sizeR] <;> omega) | fail)) only [↓preR, postR, ↓w_stop, Nat.reduceEqDiff, Nat.reduceAdd, Nat.reduceSub, Nat.reduceMul, Int.reduceNeg, Nat.reduceLT, Int.reduceToNat, Nat.reduceLeDiff, Nat.sub_zero, c6, e2])
    refine rshift_c hra hi h2.swap fun av' σ2 hr2 h3 => ?_
    (try simp (maxSteps := 1000000) (dsimp := false) (disch := (first | omega | (simp only [okR]; done) | (simp only [sizeR] <;> omega) | fail)) only [↓preR, postR, ↓w_join, Nat.reduceEqDiff, Nat.reduceAdd, Nat.reduceSub, Nat.reduceMul, Int.reduceNeg, Nat.reduceLT, Int.reduceToNat, Nat.reduceLeDiff, Nat.sub_zero])
    have e4 : (shiftV S i).2.st = S.st ∧ (shiftV S i).2.l = S.l := by unfold shiftV; split <;> exact ⟨rfl, rfl⟩
    rw [e4.1, e4.2] at hk
    exact hk _ _ _ hr2 (dr h3.swap)
  by_cases c7 : kd q = 7
  · have e : doV (q, n, val, i, ms) S = (0, ⟨S.ar, i, S.l⟩) := by simp [doV, c7]
    rw [e] at hk
    (try simp (maxSteps := 1000000) (dsimp := false) (disch := (first | omega | (simp only [okR]; done) | (simp only [sizeR] <;> omega) | fail)) only [↓preR, postR, ↓w_stop, Nat.reduceEqDiff, Nat.reduceAdd, Nat.reduceSub, Nat.reduceMul, Int.reduceNeg, Nat.reduceLT, Int.reduceToNat, Nat.reduceLeDiff, Nat.sub_zero, c7, e2, h2.obj1])
    exact hk _ _ _ hra (dr (h2.put1 (cs' := [lv, .string (bs zero), av, .int .i64 i])))
  · have e : doV (q, n, val, i, ms) S = setV S n val := by simp [doV, c2, c3, c4, c5, c6, c7]
    rw [e] at hk hP
    (try simp (maxSteps := 1000000) (dsimp := false) (disch := (first | omega | (simp only [okR]; done) | (simp only [sizeR] <;> omega) | fail)) only [↓preR, postR, ↓w_stop, Nat.reduceEqDiff, Nat.reduceAdd, Nat.reduceSub, Nat.reduceMul, Int.reduceNeg, Nat.reduceLT, Int.reduceToNat, Nat.reduceLeDiff, Nat.sub_zero, c2, c3, c4, c5, c6, c7, e2])
    refine rset_c hP hn hv h2 fun lv' σ2 h3 => ?_
    (try simp (maxSteps := 1000000) (dsimp := false) (disch := (first | omega | (simp only [okR]; done) | (simp only [sizeR] <;> omega) | fail)) only [↓preR, postR, ↓w_join, Nat.reduceEqDiff, Nat.reduceAdd, Nat.reduceSub, Nat.reduceMul, Int.reduceNeg, Nat.reduceLT, Int.reduceToNat, Nat.reduceLeDiff, Nat.sub_zero])
    have e4 : (setV S n val).2.ar = S.ar ∧ (setV S n val).2.st = S.st := ear
    rw [e4.1, e4.2] at hk
    exact hk _ _ _ hra (dr h3)
theorem TxS.own (h : Hs σ X (E.Own (α := Str) a l :: R)) : TxS σ a l := by
  obtain ⟨F, ⟨rfl, xs, h1, h2⟩, _⟩ := h.s
  rcases h1 with ⟨rfl, h0, _⟩ | ⟨g, c, sp, rfl, hm, hx, hcl, hle, hcm⟩
  · exact ⟨none, 0, by rw [h0], .inl (List.eq_nil_of_length_eq_zero h0)⟩
  · refine ⟨_, c, rfl, .inr ⟨g, 0, rfl, fun i hi => ?_⟩⟩
    obtain ⟨cs, ⟨rfl, h3⟩, h4⟩ := h2.at i hi
    refine ⟨?_, h3⟩
    have h5 : xs[i * 1 + 0]? = some (.string (bs l[i])) := h4 0 _ rfl
    rw [Nat.mul_one, Nat.add_zero] at h5
    rw [ld_m hm, Nat.zero_add, List.getElem?_append_left (List.getElem?_eq_some_iff.1 h5).1]
    exact h5
end
end Go.Proofs.YtpnefcapiiemdaaGreatDoor
