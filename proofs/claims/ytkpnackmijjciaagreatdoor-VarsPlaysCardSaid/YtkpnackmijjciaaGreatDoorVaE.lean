/- Variables: Set, Unset, Export, Readonly, arguments, status; any call. Conditions: as each theorem says. -/
import Derived.Test.YtkpnackmijjciaaGreatDoorVaD
namespace Go.Proofs.YtkpnackmijjciaaGreatDoor
open E Go.Lib
set_option linter.unusedVariables false
set_option linter.unusedSimpArgs false
set_option maxHeartbeats 1000000
set_option maxRecDepth 20000

structure VM where
  ar : List Str
  st : Int
  l : VL
abbrev OpV := Int × Str × Str × Int × List Str
def kd (k : Int) : Int := (k.tmod 8 + 8) % 8
def turnE (S : VM) (n : Str) (w : Bool) (x' : VV) : Int × VM := if nameB n = false then (16, S) else if (w && (getV S.l n).ro) = true then (15, S) else (0, ⟨S.ar, S.st, turnV S.l n x'⟩)
def setV (S : VM) (n val : Str) : Int × VM := turnE S n true ⟨val, true, (getV S.l n).exp, (getV S.l n).ro⟩
def unsetV (S : VM) (n : Str) : Int × VM := turnE S n true z0
def exportV (S : VM) (n : Str) : Int × VM := turnE S n false ⟨(getV S.l n).val, (getV S.l n).set, true, (getV S.l n).ro⟩
def roV (S : VM) (n : Str) : Int × VM := turnE S n false ⟨(getV S.l n).val, (getV S.l n).set, (getV S.l n).exp, true⟩
def shiftV (S : VM) (n : Int) : Int × VM := if n < 0 ∨ (S.ar.length : Int) < n then (1, S) else (0, ⟨S.ar.drop n.toNat, S.st, S.l⟩)
def doV (o : OpV) (S : VM) : Int × VM :=
  if kd o.1 = 2 then unsetV S o.2.1
  else if kd o.1 = 3 then exportV S o.2.1
  else if kd o.1 = 4 then roV S o.2.1
  else if kd o.1 = 5 then (0, ⟨o.2.2.2.2, S.st, S.l⟩)
  else if kd o.1 = 6 then shiftV S o.2.2.2.1
  else if kd o.1 = 7 then (0, ⟨S.ar, o.2.2.2.1, S.l⟩)
  else setV S o.2.1 o.2.2.1
abbrev Vm (v : Nat) (zero : Str) (S : VM) : Ck := Vs v zero S.ar S.st S.l
section
variable {σ σ' : AS} {X : Ce} {R : List Ck} {k : Value → AS → Prop} {v m : Nat} {u : Value} {zero n val : Str} {ms : List Str} {i : Int} {S : VM} {w : Bool} {x' : VV}
theorem turnE_c {how : Value} (h : Hs σ X (Vm v zero S :: R)) (hn : n.length ≤ maxLen)
    (hhow : ∀ (p : Nat) (σ1 : AS) (A B C : Ck) (k1 : Value → AS → Prop), Hs σ1 X (Cel p (celV n (getV S.l n)) :: A :: B :: C :: R) → (∀ v1 σ2 n', ((x'.set || x'.exp || x'.ro) = true → n' = n) → Hs σ2 X (Cel p (celV n' x') :: A :: B :: C :: R) → k1 v1 σ2) → kCallv Tryz.prog how [pv p] σ1 k1)
    (hk : ∀ σ', Hs σ' X (Vm v zero (turnE S n w x').2 :: R) → k (.int .i64 (turnE S n w x').1) σ') :
    kCall Tryz.prog 53 [pv v, .string (bs n), .bool w, how] σ k := by
  refine turn_c (x := getV S.l n) (x' := x') h hn (fun p σ1 A B C k1 h1 _ h2 => hhow p σ1 A B C k1 h1 h2) rfl (fun h16 σ' h1 => ?_) (fun hN hw hr σ' h1 => ?_) (fun hN hw σ' h1 => ?_)
  · have e : turnE S n w x' = (16, S) := by unfold turnE; rw [if_pos h16]
    rw [e] at hk
    exact hk _ h1
  · have e : turnE S n w x' = (15, S) := by unfold turnE; rw [if_neg (by rw [hN]; decide), if_pos (by rw [hw, hr]; rfl)]
    rw [e] at hk
    exact hk _ h1
  · have e : turnE S n w x' = (0, ⟨S.ar, S.st, turnV S.l n x'⟩) := by
      unfold turnE
      rw [if_neg (by rw [hN]; decide), if_neg]
      cases w with
      | false => simp
      | true => rw [hw rfl]; simp
    rw [e] at hk
    exact hk _ h1
theorem set_c (h : Hs σ X (Vm v zero S :: R)) (hn : n.length ≤ maxLen) (hk : ∀ σ', Hs σ' X (Vm v zero (setV S n val).2 :: R) → k (.int .i64 (setV S n val).1) σ') :
    kCall Tryz.prog 28 [pv v, .string (bs n), .string (bs val)] σ k := by
  refine f28 ?_
  (simp (maxSteps := 1000000) (dsimp := false) (disch := (first | omega | (simp only [okR]; done) | (simp only [sizeR] <;> omega) | fail)) only [↓preR, postR, ↓w_join, Nat.reduceEqDiff, Nat.reduceAdd, Nat.reduceSub, Nat.reduceMul, Int.reduceNeg, Nat.reduceLT, Int.reduceToNat, Nat.reduceLeDiff, Nat.sub_zero, F28])
  have h1 := h.new (cs := [.string (bs val)])
  refine turnE_c (x' := ⟨val, true, (getV S.l n).exp, (getV S.l n).ro⟩) (R := Cel σ.n [.string (bs val)] :: R) h1.swap hn (fun p σ1 A B C k1 h2 h3 => ⟨k54_ok, ?_⟩) fun σ2 h2 => ?_
  · refine f54 ?_
    have h4 : Hs σ1 X (Cel σ.n [.string (bs val)] :: Cel p (celV n (getV S.l n)) :: A :: B :: C :: R) := h2.front 4 rfl
    have h5 := h2.put (cs' := celV n ⟨val, (getV S.l n).set, (getV S.l n).exp, (getV S.l n).ro⟩)
    (simp (maxSteps := 1000000) (dsimp := false) (disch := (first | omega | (simp only [okR]; done) | (simp only [sizeR] <;> omega) | fail)) only [↓preR, postR, ↓w_join, Nat.reduceEqDiff, Nat.reduceAdd, Nat.reduceSub, Nat.reduceMul, Int.reduceNeg, Nat.reduceLT, Int.reduceToNat, Nat.reduceLeDiff, Nat.sub_zero, F54, h4.obj, h4.obj1, h5.obj])
    refine h3 _ _ n (fun _ => rfl) ?_
    exact h2.put
  · (try simp (maxSteps := 1000000) (dsimp := false) (disch := (first | omega | (simp only [okR]; done) | (simp only [sizeR] <;> omega) | fail)) only [↓preR, postR, ↓w_join, Nat.reduceEqDiff, Nat.reduceAdd, Nat.reduceSub, Nat.reduceMul, Int.reduceNeg, Nat.reduceLT, Int.reduceToNat, Nat.reduceLeDiff, Nat.sub_zero])
    exact hk _ (h2.swap.drop)
theorem unset_c (h : Hs σ X (Vm v zero S :: R)) (hn : n.length ≤ maxLen) (hk : ∀ σ', Hs σ' X (Vm v zero (unsetV S n).2 :: R) → k (.int .i64 (unsetV S n).1) σ') :
    kCall Tryz.prog 32 [pv v, .string (bs n)] σ k := by
  refine f32 ?_
  (try simp (maxSteps := 1000000) (dsimp := false) (disch := (first | omega | (simp only [okR]; done) | (simp only [sizeR] <;> omega) | fail)) only [↓preR, postR, ↓w_join, Nat.reduceEqDiff, Nat.reduceAdd, Nat.reduceSub, Nat.reduceMul, Int.reduceNeg, Nat.reduceLT, Int.reduceToNat, Nat.reduceLeDiff, Nat.sub_zero, F32])
  refine turnE_c (x' := z0) h hn (fun p σ1 A B C k1 h2 h3 => ⟨k57_ok, ?_⟩) fun σ2 h2 => ?_
  · refine f57 ?_
    (simp (maxSteps := 1000000) (dsimp := false) (disch := (first | omega | (simp only [okR]; done) | (simp only [sizeR] <;> omega) | fail)) only [↓preR, postR, ↓w_join, Nat.reduceEqDiff, Nat.reduceAdd, Nat.reduceSub, Nat.reduceMul, Int.reduceNeg, Nat.reduceLT, Int.reduceToNat, Nat.reduceLeDiff, Nat.sub_zero, F57, h2.obj])
    exact h3 _ _ [] (fun h => by cases h) h2.put
  · (try simp (maxSteps := 1000000) (dsimp := false) (disch := (first | omega | (simp only [okR]; done) | (simp only [sizeR] <;> omega) | fail)) only [↓preR, postR, ↓w_join, Nat.reduceEqDiff, Nat.reduceAdd, Nat.reduceSub, Nat.reduceMul, Int.reduceNeg, Nat.reduceLT, Int.reduceToNat, Nat.reduceLeDiff, Nat.sub_zero])
    exact hk _ h2
theorem export_c (h : Hs σ X (Vm v zero S :: R)) (hn : n.length ≤ maxLen) (hk : ∀ σ', Hs σ' X (Vm v zero (exportV S n).2 :: R) → k (.int .i64 (exportV S n).1) σ') :
    kCall Tryz.prog 33 [pv v, .string (bs n)] σ k := by
  refine f33 ?_
  (try simp (maxSteps := 1000000) (dsimp := false) (disch := (first | omega | (simp only [okR]; done) | (simp only [sizeR] <;> omega) | fail)) only [↓preR, postR, ↓w_join, Nat.reduceEqDiff, Nat.reduceAdd, Nat.reduceSub, Nat.reduceMul, Int.reduceNeg, Nat.reduceLT, Int.reduceToNat, Nat.reduceLeDiff, Nat.sub_zero, F33])
  refine turnE_c (x' := ⟨(getV S.l n).val, (getV S.l n).set, true, (getV S.l n).ro⟩) h hn (fun p σ1 A B C k1 h2 h3 => ⟨k58_ok, ?_⟩) fun σ2 h2 => ?_
  · refine f58 ?_
    (simp (maxSteps := 1000000) (dsimp := false) (disch := (first | omega | (simp only [okR]; done) | (simp only [sizeR] <;> omega) | fail)) only [↓preR, postR, ↓w_join, Nat.reduceEqDiff, Nat.reduceAdd, Nat.reduceSub, Nat.reduceMul, Int.reduceNeg, Nat.reduceLT, Int.reduceToNat, Nat.reduceLeDiff, Nat.sub_zero, F58, h2.obj])
    exact h3 _ _ n (fun _ => rfl) h2.put
  · (try simp (maxSteps := 1000000) (dsimp := false) (disch := (first | omega | (simp only [okR]; done) | (simp only [sizeR] <;> omega) | fail)) only [↓preR, postR, ↓w_join, Nat.reduceEqDiff, Nat.reduceAdd, Nat.reduceSub, Nat.reduceMul, Int.reduceNeg, Nat.reduceLT, Int.reduceToNat, Nat.reduceLeDiff, Nat.sub_zero])
    exact hk _ h2
theorem ro_c (h : Hs σ X (Vm v zero S :: R)) (hn : n.length ≤ maxLen) (hk : ∀ σ', Hs σ' X (Vm v zero (roV S n).2 :: R) → k (.int .i64 (roV S n).1) σ') :
    kCall Tryz.prog 29 [pv v, .string (bs n)] σ k := by
  refine f29 ?_
  (try simp (maxSteps := 1000000) (dsimp := false) (disch := (first | omega | (simp only [okR]; done) | (simp only [sizeR] <;> omega) | fail)) only [↓preR, postR, ↓w_join, Nat.reduceEqDiff, Nat.reduceAdd, Nat.reduceSub, Nat.reduceMul, Int.reduceNeg, Nat.reduceLT, Int.reduceToNat, Nat.reduceLeDiff, Nat.sub_zero, F29])
  refine turnE_c (x' := ⟨(getV S.l n).val, (getV S.l n).set, (getV S.l n).exp, true⟩) h hn (fun p σ1 A B C k1 h2 h3 => ⟨k55_ok, ?_⟩) fun σ2 h2 => ?_
  · refine f55 ?_
    (simp (maxSteps := 1000000) (dsimp := false) (disch := (first | omega | (simp only [okR]; done) | (simp only [sizeR] <;> omega) | fail)) only [↓preR, postR, ↓w_join, Nat.reduceEqDiff, Nat.reduceAdd, Nat.reduceSub, Nat.reduceMul, Int.reduceNeg, Nat.reduceLT, Int.reduceToNat, Nat.reduceLeDiff, Nat.sub_zero, F55, h2.obj])
    exact h3 _ _ n (fun _ => rfl) h2.put
  · (try simp (maxSteps := 1000000) (dsimp := false) (disch := (first | omega | (simp only [okR]; done) | (simp only [sizeR] <;> omega) | fail)) only [↓preR, postR, ↓w_join, Nat.reduceEqDiff, Nat.reduceAdd, Nat.reduceSub, Nat.reduceMul, Int.reduceNeg, Nat.reduceLT, Int.reduceToNat, Nat.reduceLeDiff, Nat.sub_zero])
    exact hk _ h2
theorem shift_c (h : Hs σ X (Vm v zero S :: R)) (hi : inI64 i) (hk : ∀ σ', Hs σ' X (Vm v zero (shiftV S i).2 :: R) → k (.int .i64 (shiftV S i).1) σ') :
    kCall Tryz.prog 30 [pv v, .int .i64 i] σ k := by
  obtain ⟨av, m, h1⟩ := Vs.open h
  refine f30 ?_
  (simp (maxSteps := 1000000) (dsimp := false) (disch := (first | omega | (simp only [okR]; done) | (simp only [sizeR] <;> omega) | fail)) only [↓preR, postR, ↓w_join, Nat.reduceEqDiff, Nat.reduceAdd, Nat.reduceSub, Nat.reduceMul, Int.reduceNeg, Nat.reduceLT, Int.reduceToNat, Nat.reduceLeDiff, Nat.sub_zero, F30])
  refine f56 ?_
  have h2 : Hs σ X (StrR av S.ar :: Cel v [.string (bs zero), av, .map (some m), .int .i64 S.st] :: Mp (κ := Str) m none (encL S.l) :: R) := h1.front 2 rfl
  obtain ⟨a, g, o, cap, rfl, hle, hcm, _⟩ := StrR.get h2
  unfold maxLen at hcm
  by_cases h0 : i < 0
  · (try simp (maxSteps := 1000000) (dsimp := false) (disch := (first | omega | (simp only [okR]; done) | (simp only [sizeR] <;> omega) | fail)) only [↓preR, postR, ↓w_join, Nat.reduceEqDiff, Nat.reduceAdd, Nat.reduceSub, Nat.reduceMul, Int.reduceNeg, Nat.reduceLT, Int.reduceToNat, Nat.reduceLeDiff, Nat.sub_zero, F56])
    have e : shiftV S i = (1, S) := by unfold shiftV; rw [if_pos (.inl h0)]
    rw [e] at hk
    exact hk _ h
  by_cases h3 : (S.ar.length : Int) < i
  · (try simp (maxSteps := 1000000) (dsimp := false) (disch := (first | omega | (simp only [okR]; done) | (simp only [sizeR] <;> omega) | fail)) only [↓preR, postR, ↓w_join, Nat.reduceEqDiff, Nat.reduceAdd, Nat.reduceSub, Nat.reduceMul, Int.reduceNeg, Nat.reduceLT, Int.reduceToNat, Nat.reduceLeDiff, Nat.sub_zero, F56, h1.obj])
    have e : shiftV S i = (1, S) := by unfold shiftV; rw [if_pos (.inr h3)]
    rw [e] at hk
    exact hk _ h
  · obtain ⟨j, rfl⟩ : ∃ j : Nat, i = j := ⟨i.toNat, by omega⟩
    obtain ⟨v', e1, h4⟩ := StrR.drop h2 (n := j) (by omega)
    have e : shiftV S (j : Int) = (0, ⟨S.ar.drop j, S.st, S.l⟩) := by
      unfold shiftV; rw [if_neg (by omega)]
      rfl
    rw [e] at hk
    obtain ⟨a2, g2, o2, cap2, rfl, _⟩ := StrR.get h4
    (simp (maxSteps := 1000000) (dsimp := false) (disch := (first | omega | (simp only [okR]; done) | (simp only [sizeR] <;> omega) | fail)) only [↓preR, postR, ↓w_join, Nat.reduceEqDiff, Nat.reduceAdd, Nat.reduceSub, Nat.reduceMul, Int.reduceNeg, Nat.reduceLT, Int.reduceToNat, Nat.reduceLeDiff, Nat.sub_zero, F56, h1.obj, ↓e1])
    have h5 : Hs σ X (Cel v [.string (bs zero), .slice a S.ar.length cap, .map (some m), .int .i64 S.st] :: Mp (κ := Str) m none (encL S.l) :: StrR (.slice a2 (S.ar.drop j).length cap2) (S.ar.drop j) :: R) := (h4.swap).swap.un2
    exact hk _ (Vs.close (ar := S.ar.drop j) h5.put)
end
end Go.Proofs.YtkpnackmijjciaaGreatDoor
