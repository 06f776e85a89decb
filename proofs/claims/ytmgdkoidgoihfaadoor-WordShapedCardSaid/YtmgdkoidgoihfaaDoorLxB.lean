/- A text gone through: the reader's calls. Conditions: as each theorem says. -/
import Derived.Test.YtmgdkoidgoihfaaDoorLxA
import Derived.Test.YtmgdkoidgoihfaaDoorC
namespace Go.Proofs.YtmgdkoidgoihfaaDoor
open E Go.Lib
set_option linter.unusedVariables false
set_option linter.unusedSimpArgs false
set_option maxHeartbeats 1000000
set_option maxRecDepth 20000

abbrev pv (q : Nat) : Value := .pointer (some ⟨q, 0, none⟩)
abbrev rdC (e bat : Int) (s : Str) (i deep : Int) (rest : List Value) : List Value := .int .i64 e :: .int .i64 bat :: .string (bs s) :: .int .i64 i :: .int .i64 deep :: rest
/-- What is done behind a call that went through something. -/
def RdK (X : Ce) (R : List Ck) (p : Nat) (s : Str) (i bat deep : Nat) (rest : List Value) (k : Value → AS → Prop) : Rd → Prop
  | .ok n => ∀ w σ', Hs σ' X (Cel p (rdC 0 bat s ((i + n : Nat) : Int) deep rest) :: R) → k w σ'
  | .bad e j => ∀ w σ' (at' dp : Nat), at' ≤ s.length → Hs σ' X (Cel p (rdC e ((i + j : Nat) : Int) s at' dp rest) :: R) → k w σ'
  | .cut => True
theorem pos_idx (c : UInt8) : ∀ l : Str, indexByte l c = match posB c l with | some n => (n : Int) | none => -1
  | [] => rfl
  | a :: l => by
    have ih := pos_idx c l
    unfold indexByte posB
    by_cases h : a = c
    · subst h; simp
    · have : (a == c) = false := by simpa using h
      rw [this]
      simp only [Bool.false_eq_true, if_false, h]
      rw [ih]
      cases posB c l with
      | none => rfl
      | some n =>
        have : ¬ ((n : Int) == -1) = true := by simp
        simp only [this, if_false, Option.map_some]
        simp
theorem drop_all (s : Str) (i : Nat) : (s.drop i).take (s.length - i) = s.drop i := List.take_of_length_le (by simp)
theorem drop_c {s : Str} {i : Nat} (h : i < s.length) : s.drop i = s[i] :: s.drop (i + 1) := List.drop_eq_getElem_cons h
theorem getd {s : Str} {i : Nat} (h : i < s.length) : (s[i]?).getD 0 = s[i] := by simp [h]
section
variable {σ σ' : AS} {X : Ce} {R : List Ck} {k : Value → AS → Prop} {p i bat deep : Nat} {s pre : Str} {e at_ dp : Int} {rest : List Value} {c : UInt8} {r : Rd} {n : Int}
theorem pref_c (hs : s.length ≤ maxLen) (hk : k (.bool (decide (s.take pre.length = pre))) σ) : kCall Tryd.prog 44 [.string (bs s), .string (bs pre)] σ k := by
  unfold maxLen at hs
  refine f44 ?_
  (simp (maxSteps := 1000000) (dsimp := false) (disch := (first | omega | (simp only [okR]; done) | (simp only [sizeR] <;> omega) | fail)) only [↓preR, postR, ↓w_join, Nat.reduceEqDiff, Nat.reduceAdd, Nat.reduceSub, Nat.reduceMul, Int.reduceNeg, Nat.reduceLT, Int.reduceToNat, Nat.reduceLeDiff, Nat.sub_zero, F44])
  refine f58 ?_
  by_cases h : pre.length ≤ s.length
  · (simp (maxSteps := 1000000) (dsimp := false) (disch := (first | omega | (simp only [okR]; done) | (simp only [sizeR] <;> omega) | fail)) only [↓preR, postR, ↓w_join, Nat.reduceEqDiff, Nat.reduceAdd, Nat.reduceSub, Nat.reduceMul, Int.reduceNeg, Nat.reduceLT, Int.reduceToNat, Nat.reduceLeDiff, Nat.sub_zero, F58, h])
    exact hk
  · have h2 : ¬ s.take pre.length = pre := fun e => by have := congrArg List.length e; rw [List.length_take] at this; omega
    rw [decide_eq_false h2] at hk
    (simp (maxSteps := 1000000) (dsimp := false) (disch := (first | omega | (simp only [okR]; done) | (simp only [sizeR] <;> omega) | fail)) only [↓preR, postR, ↓w_join, Nat.reduceEqDiff, Nat.reduceAdd, Nat.reduceSub, Nat.reduceMul, Int.reduceNeg, Nat.reduceLT, Int.reduceToNat, Nat.reduceLeDiff, Nat.sub_zero, F58])
    exact hk
theorem idx_c {m : Int} (hm : m = c.toNat) (hk : k (.int .i64 (match posB c s with | some n => (n : Int) | none => -1)) σ) : kCall Tryd.prog 24 [.string (bs s), .int .u8 m] σ k := by
  subst hm
  refine f24 ?_
  (simp (maxSteps := 1000000) (dsimp := false) (disch := (first | omega | (simp only [okR]; done) | (simp only [sizeR] <;> omega) | fail)) only [↓preR, postR, ↓w_join, Nat.reduceEqDiff, Nat.reduceAdd, Nat.reduceSub, Nat.reduceMul, Int.reduceNeg, Nat.reduceLT, Int.reduceToNat, Nat.reduceLeDiff, Nat.sub_zero, F24])
  refine f37 ?_
  (simp (maxSteps := 1000000) (dsimp := false) (disch := (first | omega | (simp only [okR]; done) | (simp only [sizeR] <;> omega) | fail)) only [↓preR, postR, ↓w_join, Nat.reduceEqDiff, Nat.reduceAdd, Nat.reduceSub, Nat.reduceMul, Int.reduceNeg, Nat.reduceLT, Int.reduceToNat, Nat.reduceLeDiff, Nat.sub_zero, F37])
  refine idx_by (by kernel_rfl) (by kernel_rfl) ?_
  have e : ((c.toNat : Int)).toNat.toUInt8 = c := by simp
  rw [e, pos_idx]
  exact hk
theorem wrong_c (h : Hs σ X (Cel p (rdC e at_ s n dp rest) :: R)) (hk : k (.bool (decide (¬ e = 0))) σ) : kCall Tryd.prog 39 [pv p] σ k := by
  refine f39 ?_
  (simp (maxSteps := 1000000) (dsimp := false) (disch := (first | omega | (simp only [okR]; done) | (simp only [sizeR] <;> omega) | fail)) only [↓preR, postR, ↓w_join, Nat.reduceEqDiff, Nat.reduceAdd, Nat.reduceSub, Nat.reduceMul, Int.reduceNeg, Nat.reduceLT, Int.reduceToNat, Nat.reduceLeDiff, Nat.sub_zero, F39, h.obj])
  simpa using hk
theorem isb_c {e' at' : Int} (h : Hs σ X (Cel p (rdC 0 at_ s n dp rest) :: R)) (hk : ∀ w σ', Hs σ' X (Cel p (rdC e' at' s n dp rest) :: R) → k w σ') : kCall Tryd.prog 56 [pv p, .int .i64 e', .int .i64 at'] σ k := by
  refine f56 ?_
  have h1 := h.put (cs' := rdC e' at_ s n dp rest)
  (simp (maxSteps := 1000000) (dsimp := false) (disch := (first | omega | (simp only [okR]; done) | (simp only [sizeR] <;> omega) | fail)) only [↓preR, postR, ↓w_join, Nat.reduceEqDiff, Nat.reduceAdd, Nat.reduceSub, Nat.reduceMul, Int.reduceNeg, Nat.reduceLT, Int.reduceToNat, Nat.reduceLeDiff, Nat.sub_zero, F56, h.obj, h1.obj])
  exact hk _ _ h.put
theorem opens_c (h : Hs σ X (Cel p (rdC 0 at_ s n deep rest) :: R)) (hd : deep ≤ 40) (hk1 : deep < 40 → ∀ σ', Hs σ' X (Cel p (rdC 0 at_ s n ((deep + 1 : Nat) : Int) rest) :: R) → k (.bool true) σ')
    (hk2 : deep = 40 → ∀ σ', Hs σ' X (Cel p (rdC 3 e s n deep rest) :: R) → k (.bool false) σ') : kCall Tryd.prog 66 [pv p, .int .i64 e] σ k := by
  refine f66 ?_
  by_cases h40 : deep = 40
  · subst h40
    (simp (maxSteps := 1000000) (dsimp := false) (disch := (first | omega | (simp only [okR]; done) | (simp only [sizeR] <;> omega) | fail)) only [↓preR, postR, ↓w_join, Nat.reduceEqDiff, Nat.reduceAdd, Nat.reduceSub, Nat.reduceMul, Int.reduceNeg, Nat.reduceLT, Int.reduceToNat, Nat.reduceLeDiff, Nat.sub_zero, F66, h.obj])
    refine isb_c h fun w σ1 h1 => ?_
    (try simp (maxSteps := 1000000) (dsimp := false) (disch := (first | omega | (simp only [okR]; done) | (simp only [sizeR] <;> omega) | fail)) only [↓preR, postR, ↓w_join, Nat.reduceEqDiff, Nat.reduceAdd, Nat.reduceSub, Nat.reduceMul, Int.reduceNeg, Nat.reduceLT, Int.reduceToNat, Nat.reduceLeDiff, Nat.sub_zero])
    exact hk2 rfl _ h1
  · have : ¬ ((deep : Int) = 40) := by omega
    (simp (maxSteps := 1000000) (dsimp := false) (disch := (first | omega | (simp only [okR]; done) | (simp only [sizeR] <;> omega) | fail)) only [↓preR, postR, ↓w_join, Nat.reduceEqDiff, Nat.reduceAdd, Nat.reduceSub, Nat.reduceMul, Int.reduceNeg, Nat.reduceLT, Int.reduceToNat, Nat.reduceLeDiff, Nat.sub_zero, F66, h.obj, this])
    refine hk1 (by omega) _ ?_
    exact h.put
theorem single_c (h : Hs σ X (Cel p (rdC 0 bat s i deep rest) :: R)) (hi : i < s.length) (hs : s.length ≤ maxLen) (hk : RdK X R p s i bat deep rest k (match posB 39 (s.drop (i + 1)) with | some n => .ok (n + 2) | none => .bad 11 0)) :
    kCall Tryd.prog 51 [pv p] σ k := by
  unfold maxLen at hs
  refine f51 ?_
  (simp (maxSteps := 1000000) (dsimp := false) (disch := (first | omega | (simp only [okR]; done) | (simp only [sizeR] <;> omega) | fail)) only [↓preR, postR, ↓w_join, Nat.reduceEqDiff, Nat.reduceAdd, Nat.reduceSub, Nat.reduceMul, Int.reduceNeg, Nat.reduceLT, Int.reduceToNat, Nat.reduceLeDiff, Nat.sub_zero, F51, h.obj, drop_all])
  refine idx_c (c := 39) rfl ?_
  cases hp : posB 39 (s.drop (i + 1)) with
  | none =>
    rw [hp] at hk
    (simp (maxSteps := 1000000) (dsimp := false) (disch := (first | omega | (simp only [okR]; done) | (simp only [sizeR] <;> omega) | fail)) only [↓preR, postR, ↓w_join, Nat.reduceEqDiff, Nat.reduceAdd, Nat.reduceSub, Nat.reduceMul, Int.reduceNeg, Nat.reduceLT, Int.reduceToNat, Nat.reduceLeDiff, Nat.sub_zero, h.obj])
    refine isb_c h fun w σ1 h1 => ?_
    (try simp (maxSteps := 1000000) (dsimp := false) (disch := (first | omega | (simp only [okR]; done) | (simp only [sizeR] <;> omega) | fail)) only [↓preR, postR, ↓w_join, Nat.reduceEqDiff, Nat.reduceAdd, Nat.reduceSub, Nat.reduceMul, Int.reduceNeg, Nat.reduceLT, Int.reduceToNat, Nat.reduceLeDiff, Nat.sub_zero])
    exact hk _ _ i deep (by omega) h1
  | some m =>
    rw [hp] at hk
    have hm := pos_lt hp
    rw [List.length_drop] at hm
    (simp (maxSteps := 1000000) (dsimp := false) (disch := (first | omega | (simp only [okR]; done) | (simp only [sizeR] <;> omega) | fail)) only [↓preR, postR, ↓w_join, Nat.reduceEqDiff, Nat.reduceAdd, Nat.reduceSub, Nat.reduceMul, Int.reduceNeg, Nat.reduceLT, Int.reduceToNat, Nat.reduceLeDiff, Nat.sub_zero, h.obj])
    refine hk _ _ ?_
    have e : ((i : Int) + ((m : Int) + 2)) = ((i + (m + 2) : Nat) : Int) := by omega
    rw [e]
    exact h.put
end
end Go.Proofs.YtmgdkoidgoihfaaDoor
