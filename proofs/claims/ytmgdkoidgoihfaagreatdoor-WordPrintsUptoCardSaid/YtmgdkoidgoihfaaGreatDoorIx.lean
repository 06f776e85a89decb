/- The first place of a byte in a text. Conditions: none. -/
import Derived.Test.YtmgdkoidgoihfaaGreatDoorLxA
import Derived.Test.YtmgdkoidgoihfaaGreatDoorC
namespace Go.Proofs.YtmgdkoidgoihfaaGreatDoor
open E Go.Lib
set_option linter.unusedVariables false
set_option linter.unusedSimpArgs false
set_option maxHeartbeats 1000000
set_option maxRecDepth 20000

theorem pos_idx (c : UInt8) : ∀ l : Str, indexByte l c = match posB c l with | some n => (n : Int) | none => -1
  | [] => rfl
  | a :: l => by
    have ih := pos_idx c l
    unfold indexByte posB
    by_cases h : a = c
    · subst h; simp
    · have : (a == c) = false := by simpa using h
      rw [this]
      simp only [Bool.false_eq_true, if_false, h]
      rw [ih]
      cases posB c l with
      | none => rfl
      | some n =>
        have : ¬ ((n : Int) == -1) = true := by simp
        simp only [this, if_false, Option.map_some]
        simp
theorem getd {s : Str} {i : Nat} (h : i < s.length) : (s[i]?).getD 0 = s[i] := by simp [h]
theorem pos_no {c : UInt8} : ∀ {l : Str}, (∀ x, x ∈ l → x ≠ c) → posB c l = none
  | [], _ => rfl
  | a :: l, h => by
    show (if a = c then some 0 else (posB c l).map (· + 1)) = none
    rw [if_neg (h a (by simp)), pos_no (l := l) fun x hx => h x (by simp [hx])]
    rfl
section
variable {σ : AS} {k : Value → AS → Prop} {s : Str} {c : UInt8}
theorem idx_c {m : Int} (hm : m = c.toNat) (hk : k (.int .i64 (match posB c s with | some n => (n : Int) | none => -1)) σ) : kCall Tryz.prog 39 [.string (bs s), .int .u8 m] σ k := by
  subst hm
  refine f39 ?_
  (simp (maxSteps := 1000000) (dsimp := false) (disch := (first | omega | (simp only [okR]; done) | (simp only [sizeR] <;> omega) | fail)) only [↓preR, postR, ↓w_join, Nat.reduceEqDiff, Nat.reduceAdd, Nat.reduceSub, Nat.reduceMul, Int.reduceNeg, Nat.reduceLT, Int.reduceToNat, Nat.reduceLeDiff, Nat.sub_zero, F39])
  refine f63 ?_
  (simp (maxSteps := 1000000) (dsimp := false) (disch := (first | omega | (simp only [okR]; done) | (simp only [sizeR] <;> omega) | fail)) only [↓preR, postR, ↓w_join, Nat.reduceEqDiff, Nat.reduceAdd, Nat.reduceSub, Nat.reduceMul, Int.reduceNeg, Nat.reduceLT, Int.reduceToNat, Nat.reduceLeDiff, Nat.sub_zero, F63])
  refine idx_by (by kernel_rfl) (by kernel_rfl) ?_
  have e : ((c.toNat : Int)).toNat.toUInt8 = c := by simp
  rw [e, pos_idx]
  exact hk
end
end Go.Proofs.YtmgdkoidgoihfaaGreatDoor
