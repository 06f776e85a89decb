/- The worker at an expression: what each call leaves. Conditions: as each theorem says. -/
import Derived.Test.YtkbpbagjbjkpmaaGreatDoorWa
import Derived.Test.YtkbpbagjbjkpmaaGreatDoorTxA
namespace Go.Proofs.YtkbpbagjbjkpmaaGreatDoor
open E Go.Lib
open Rp
set_option linter.unusedVariables false
set_option linter.unusedSimpArgs false
set_option maxHeartbeats 1000000
set_option maxRecDepth 20000

/-- What a call leaves: how it was before, whether it was bad. -/
structure After (B : Nat) (look : Str → Int × Int) (f : Nat) (md : Md) (st : ASt) (b : Bool) (v : Int) (st' : ASt) (b' : Bool) : Prop where
  num : inI64 v
  over : st'.over = st.over
  lq : Lq B st st'
  bad : b = true → b' = true
  ok : b = false → match ev look f md st with
    | none => b' = true
    | some (n, s2) => v = n ∧ st' = s2 ∧ b' = false
def needs : Md → Nat → Nat
  | .set, L => 20 * L + 18
  | .choice, L => 20 * L + 17
  | .rank r, L => 20 * L + 16 - r
  | .loop _ _, L => 20 * L + 1
  | .opnd, L => 20 * L + 2
theorem front_le : ∀ (i : Nat) (l : Str), frontF i l ≤ l.length
  | _, [] => Nat.le_refl _
  | i, c :: t => by
    unfold frontF
    split
    · have := front_le (i + 1) t
      simp only [List.length_cons]; omega
    · omega
/-- An operator that is one byte. -/
def oneB (x : UInt8) : Prop := x = 41 ∨ x = 63 ∨ x = 58
theorem next_one {x : UInt8} (hx : oneB x) (l : Str) : nextP l = [x] ↔ ∃ t, l = x :: t := by
  have h2 : ∀ y : UInt8, rankOf [x, y] = 0 ∧ asgn [x, y] = false := by
    intro y
    rcases hx with rfl | rfl | rfl <;> exact ⟨by unfold rankOf; split <;> simp_all, by unfold asgn; split <;> simp_all⟩
  constructor
  · intro h
    match l with
    | [] => cases h
    | [a] => injection h with h _; exact ⟨[], by rw [h]⟩
    | a :: b :: t =>
      have e : (if rankOf [a, b] ≠ 0 ∨ asgn [a, b] = true then [a, b] else [a]) = [x] := h
      split at e
      · cases e
      · injection e with e _; exact ⟨b :: t, by rw [e]⟩
  · rintro ⟨t, rfl⟩
    match t with
    | [] => rfl
    | b :: t =>
      show (if rankOf [x, b] ≠ 0 ∨ asgn [x, b] = true then [x, b] else [x]) = [x]
      rw [if_neg]
      rintro (h | h)
      · exact h (h2 b).1
      · rw [(h2 b).2] at h; cases h
section
variable (X : Ce) (p m : Nat) (ops : List (Str × Value)) (vv : Value) (B : Nat) (look : Str → Int × Int) (g : Nat) (o : Go.Obj)
/-- A function's contract. -/
def FnC (fn : Nat) (args : List Value) (md : Md) (f : Nat) : Prop := ∀ (σ : AS) (R : List Ck) (k : Value → AS → Prop) (st : ASt) (b : Bool) (u : Value) (i : Nat), needs md st.left.length ≤ f → InvS B st → R[i]? = some (Oth g o) → Hs σ X (WkR p m ops vv u st b R) →
  (∀ v st' b' u' σ', After B look f md st b v st' b' → Hs σ' X (WkR p m ops vv u' st' b' R) → k (.int .i64 v) σ') → kCall Tryz.prog fn (pvw p :: args) σ k
def AllC (f : Nat) : Prop := FnC X p m ops vv B look g o 21 [] .set f ∧ FnC X p m ops vv B look g o 56 [] .choice f ∧
  (∀ r : Nat, 1 ≤ r → r ≤ 11 → FnC X p m ops vv B look g o 81 [.int .i64 r] (.rank r) f) ∧ FnC X p m ops vv B look g o 101 [] .opnd f
end
section
variable {X : Ce} {p m : Nat} {ops : List (Str × Value)} {vv : Value} {B : Nat} {look : Str → Int × Int} {g : Nat} {o : Go.Obj} {σ : AS} {k : Value → AS → Prop} {vars : List (Str × Str)}
theorem yes_c {b : Bool} (hk : k (.int .i64 (truthI b)) σ) : kCall Tryz.prog 39 [.bool b] σ k := by
  refine f39 ?_
  cases b with
  | true => (try simp (maxSteps := 1000000) (dsimp := false) (disch := (first | omega | (simp only [okR]; done) | (simp only [sizeR] <;> omega) | fail)) only [↓preR, postR, ↓w_stop, Nat.reduceEqDiff, Nat.reduceAdd, Nat.reduceSub, Nat.reduceMul, Int.reduceNeg, Nat.reduceLT, Int.reduceToNat, Nat.reduceLeDiff, Nat.sub_zero, F39]); refine join_now ?_; (try simp (maxSteps := 1000000) (dsimp := false) (disch := (first | omega | (simp only [okR]; done) | (simp only [sizeR] <;> omega) | fail)) only [↓preR, postR, ↓w_stop, Nat.reduceEqDiff, Nat.reduceAdd, Nat.reduceSub, Nat.reduceMul, Int.reduceNeg, Nat.reduceLT, Int.reduceToNat, Nat.reduceLeDiff, Nat.sub_zero]); exact hk
  | false => (try simp (maxSteps := 1000000) (dsimp := false) (disch := (first | omega | (simp only [okR]; done) | (simp only [sizeR] <;> omega) | fail)) only [↓preR, postR, ↓w_stop, Nat.reduceEqDiff, Nat.reduceAdd, Nat.reduceSub, Nat.reduceMul, Int.reduceNeg, Nat.reduceLT, Int.reduceToNat, Nat.reduceLeDiff, Nat.sub_zero, F39]); refine join_now ?_; (try simp (maxSteps := 1000000) (dsimp := false) (disch := (first | omega | (simp only [okR]; done) | (simp only [sizeR] <;> omega) | fail)) only [↓preR, postR, ↓w_stop, Nat.reduceEqDiff, Nat.reduceAdd, Nat.reduceSub, Nat.reduceMul, Int.reduceNeg, Nat.reduceLT, Int.reduceToNat, Nat.reduceLeDiff, Nat.sub_zero]); exact hk
theorem xorI {n : Int} (h : inI64 n) : unV .xor (.int .i64 n) = some (.int .i64 (-n - 1)) := by
  unfold inI64 at h
  have e : (BitVec.ofInt 64 (-1) ^^^ BitVec.ofInt 64 n).toNat = 2 ^ 64 - 1 - (BitVec.ofInt 64 n).toNat := by
    rw [show BitVec.ofInt 64 (-1) = BitVec.allOnes 64 from by decide, BitVec.allOnes_xor, BitVec.toNat_not]
  have e2 : unV .xor (.int .i64 n) = some (.int .i64 (IntKind.i64.wrap ((BitVec.ofInt 64 (-1) ^^^ BitVec.ofInt 64 n).toNat))) := rfl
  have e3 : IntKind.i64.wrap (((2 ^ 64 - 1 - (n % ((2 ^ 64 : Nat) : Int)).toNat : Nat)) : Int) = -n - 1 := by
    rw [IntKind.wrap_i64]
    omega
  rw [e2, e, BitVec.toNat_ofInt]
  exact congrArg (fun z => some (Value.int .i64 z)) e3
/-- What a sign makes of a number. -/
def signV (c : UInt8) (n : Int) : Int := if c = 45 then wI (0 - n) else if c = 33 then truthI (decide (n = 0)) else if c = 126 then -n - 1 else n
theorem signV_in {c : UInt8} {n : Int} (h : inI64 n) : inI64 (signV c n) := by
  unfold signV
  split
  · exact wI_in _
  split
  · exact truth_in _
  split
  · unfold inI64 at *; omega
  · exact h
theorem After.sign {B : Nat} {look : Str → Int × Int} {f : Nat} {st st' : ASt} {b' : Bool} {c : UInt8} {t : Str} {v : Int} (a : After B look f .opnd (st.skip.at t) false v st' b') (hI : SetsI B st.sets) (hl : st.skip.left = c :: t) (hc : c = 43 ∨ c = 45 ∨ c = 33 ∨ c = 126) :
    After B look (f + 1) .opnd st false (signV c v) st' b' :=
  ⟨signV_in a.num, a.over, (((Lq.refl hI).skip).at (by rw [hl]; simp)).trans a.lq, fun h => (by cases h), fun _ => by
    have h1 := a.ok rfl
    unfold ev
    simp only [hl]
    rw [if_pos hc]
    cases he : ev look f .opnd (st.skip.at t) with
    | none => rw [he] at h1; exact h1
    | some q =>
      rw [he] at h1
      obtain ⟨n, s2⟩ := q
      obtain ⟨rfl, rfl, rfl⟩ := h1
      exact ⟨rfl, rfl, rfl⟩⟩
theorem opnd_c {f : Nat} (hB : B ≤ 1000000) (hO : OpsOk X ops) (hE : ErrI X) (hV : VarsI X vv vars) (hL : LookI (lookV vars)) (ih : AllC X p m ops vv B (lookV vars) g o f) : FnC X p m ops vv B (lookV vars) g o 101 [] .opnd (f + 1) := by
  intro σ R k st b u i hf hI hg h hk
  refine f101 ?_
  have hlB := hI.n
  (try simp (maxSteps := 1000000) (dsimp := false) (disch := (first | omega | (simp only [okR]; done) | (simp only [sizeR] <;> omega) | fail)) only [↓preR, postR, ↓w_stop, Nat.reduceEqDiff, Nat.reduceAdd, Nat.reduceSub, Nat.reduceMul, Int.reduceNeg, Nat.reduceLT, Int.reduceToNat, Nat.reduceLeDiff, Nat.sub_zero, F101])
  refine skip_c (by omega) h fun w s1 h1 => ?_
  have lq0 : Lq B st st.skip := (Lq.refl hI.s).skip
  (try simp (maxSteps := 1000000) (dsimp := false) (disch := (first | omega | (simp only [okR]; done) | (simp only [sizeR] <;> omega) | fail)) only [↓preR, postR, ↓w_stop, Nat.reduceEqDiff, Nat.reduceAdd, Nat.reduceSub, Nat.reduceMul, Int.reduceNeg, Nat.reduceLT, Int.reduceToNat, Nat.reduceLeDiff, Nat.sub_zero])
  refine join_by fun J1 hJ1 => ?_
  have fail_ : (b = true ∨ st.skip.left = []) → ∀ s2, Hs s2 X (WkR p m ops vv u st.skip true R) → k (.int .i64 0) s2 := by
    intro hb s2 h2
    refine hk 0 st.skip true u s2 ⟨by unfold inI64; omega, rfl, lq0, fun _ => rfl, fun hbf => ?_⟩ h2
    rcases hb with hb | hb
    · rw [hb] at hbf; cases hbf
    · unfold ev
      simp only [hb]
  cases b with
  | true =>
    have h2 := h1.put (cs' := wkC st.skip true m vv u)
    (try simp (maxSteps := 1000000) (dsimp := false) (disch := (first | omega | (simp only [okR]; done) | (simp only [sizeR] <;> omega) | fail)) only [↓preR, postR, ↓w_stop, Nat.reduceEqDiff, Nat.reduceAdd, Nat.reduceSub, Nat.reduceMul, Int.reduceNeg, Nat.reduceLT, Int.reduceToNat, Nat.reduceLeDiff, Nat.sub_zero, h1.obj])
    exact fail_ (.inl rfl) _ h2
  | false =>
  cases hl : st.skip.left with
  | nil =>
    have o1 : s1.m p = some (.cells [.string (bs []), .map (some m), vv, u, .int .i64 st.skip.over, .bool false, .int .i64 st.skip.fell]) := by rw [← hl]; exact h1.obj
    have h2 : Hs (s1.put p (.cells [.string (bs []), .map (some m), vv, u, .int .i64 st.skip.over, .bool true, .int .i64 st.skip.fell])) X (WkR p m ops vv u st.skip true R) := by rw [← hl]; exact h1.put
    (try simp (maxSteps := 1000000) (dsimp := false) (disch := (first | omega | (simp only [okR]; done) | (simp only [sizeR] <;> omega) | fail)) only [↓preR, postR, ↓w_stop, Nat.reduceEqDiff, Nat.reduceAdd, Nat.reduceSub, Nat.reduceMul, Int.reduceNeg, Nat.reduceLT, Int.reduceToNat, Nat.reduceLeDiff, Nat.sub_zero, o1])
    exact fail_ (.inr hl) _ h2
  | cons c t =>
    have o1 : s1.m p = some (.cells [.string (bs (c :: t)), .map (some m), vv, u, .int .i64 st.skip.over, .bool false, .int .i64 st.skip.fell]) := by rw [← hl]; exact h1.obj
    have hne : ¬ (c :: t : Str) = [] := by simp
    have ht : t.length + 1 ≤ st.left.length := by
      have := skip_len st.left
      have e : st.skip.left = skipB st.left := rfl
      rw [← e, hl] at this
      exact this
    have hcn : ∀ d : UInt8, ¬ c = d → ¬ (c.toNat : Int) = (d.toNat : Int) := fun d hd e => hd (UInt8.toNat_inj.1 (by omega))
    have et : List.take (t.length + 1 - 1) t = t := List.take_of_length_le (by omega)
    have lt : Lq B st (st.skip.at t) := lq0.at (by rw [hl]; simp)
    have it : InvS B (st.skip.at t) := lt.inv hI (Nat.le_refl _)
    (try simp (maxSteps := 1000000) (dsimp := false) (disch := (first | omega | (simp only [okR]; done) | (simp only [sizeR] <;> omega) | fail)) only [↓preR, postR, ↓w_stop, Nat.reduceEqDiff, Nat.reduceAdd, Nat.reduceSub, Nat.reduceMul, Int.reduceNeg, Nat.reduceLT, Int.reduceToNat, Nat.reduceLeDiff, Nat.sub_zero, o1, hne])
    refine hJ1 _ _ ?_
    clear hJ1
    have h3 := h1.put (cs' := wkC (st.skip.at t) false m vv u)
    have hft : needs .opnd t.length ≤ f := by simp only [needs] at hf ⊢; omega
    have hfs : needs .set t.length ≤ f := by simp only [needs] at hf ⊢; omega
    have sign := fun (v : Int) st' b' u' (σ' : AS) (hc : c = 43 ∨ c = 45 ∨ c = 33 ∨ c = 126) (a2 : After B (lookV vars) f .opnd (st.skip.at t) false v st' b') (h4 : Hs σ' X (WkR p m ops vv u' st' b' R)) => hk _ _ _ _ _ (a2.sign hI.s hl hc) h4
    (try simp (maxSteps := 1000000) (dsimp := false) (disch := (first | omega | (simp only [okR]; done) | (simp only [sizeR] <;> omega) | fail)) only [↓preR, postR, ↓w_stop, Nat.reduceEqDiff, Nat.reduceAdd, Nat.reduceSub, Nat.reduceMul, Int.reduceNeg, Nat.reduceLT, Int.reduceToNat, Nat.reduceLeDiff, Nat.sub_zero])
    refine join_by fun J2 hJ2 => ?_
    have sub : ∀ k1 : Value → AS → Prop, (∀ v st' b' u' σ', After B (lookV vars) f .opnd (st.skip.at t) false v st' b' → Hs σ' X (WkR p m ops vv u' st' b' R) → k1 (.int .i64 v) σ') → kCall Tryz.prog 101 [pvw p] (s1.put p (.cells (wkC (st.skip.at t) false m vv u))) k1 :=
      fun k1 hk1 => ih.2.2.2 _ _ _ (st.skip.at t) false u i hft it hg h3 hk1
    by_cases c43 : c = 43
    · have n43 : (c.toNat : Int) = 43 := by rw [c43]; rfl
      have n45 : ¬ (c.toNat : Int) = 45 := by omega
      have n33 : ¬ (c.toNat : Int) = 33 := by omega
      have n126 : ¬ (c.toNat : Int) = 126 := by omega
      (try simp (maxSteps := 1000000) (dsimp := false) (disch := (first | omega | (simp only [okR]; done) | (simp only [sizeR] <;> omega) | fail)) only [↓preR, postR, ↓w_stop, Nat.reduceEqDiff, Nat.reduceAdd, Nat.reduceSub, Nat.reduceMul, Int.reduceNeg, Nat.reduceLT, Int.reduceToNat, Nat.reduceLeDiff, Nat.sub_zero, o1, Option.getD_some, n43, et])
      refine sub _ fun v st' b' u' s2 a2 h4 => ?_
      have hs := sign v st' b' u' s2 (.inl c43) a2 h4
      have es : signV c v = v := by subst c43; unfold signV; rw [if_neg (by decide), if_neg (by decide), if_neg (by decide)]
      rw [es] at hs
      (try simp (maxSteps := 1000000) (dsimp := false) (disch := (first | omega | (simp only [okR]; done) | (simp only [sizeR] <;> omega) | fail)) only [↓preR, postR, ↓w_stop, Nat.reduceEqDiff, Nat.reduceAdd, Nat.reduceSub, Nat.reduceMul, Int.reduceNeg, Nat.reduceLT, Int.reduceToNat, Nat.reduceLeDiff, Nat.sub_zero])
      refine join_now ?_
      (try simp (maxSteps := 1000000) (dsimp := false) (disch := (first | omega | (simp only [okR]; done) | (simp only [sizeR] <;> omega) | fail)) only [↓preR, postR, ↓w_stop, Nat.reduceEqDiff, Nat.reduceAdd, Nat.reduceSub, Nat.reduceMul, Int.reduceNeg, Nat.reduceLT, Int.reduceToNat, Nat.reduceLeDiff, Nat.sub_zero])
      exact hs
    by_cases c45 : c = 45
    · have n45 : (c.toNat : Int) = 45 := by rw [c45]; rfl
      have n43 : ¬ (c.toNat : Int) = 43 := by omega
      (try simp (maxSteps := 1000000) (dsimp := false) (disch := (first | omega | (simp only [okR]; done) | (simp only [sizeR] <;> omega) | fail)) only [↓preR, postR, ↓w_stop, Nat.reduceEqDiff, Nat.reduceAdd, Nat.reduceSub, Nat.reduceMul, Int.reduceNeg, Nat.reduceLT, Int.reduceToNat, Nat.reduceLeDiff, Nat.sub_zero, o1, Option.getD_some, n43, n45, et])
      refine sub _ fun v st' b' u' s2 a2 h4 => ?_
      have hs := sign v st' b' u' s2 (.inr (.inl c45)) a2 h4
      have es : signV c v = IntKind.i64.wrap (0 - v) := by unfold signV; rw [if_pos c45]; rfl
      rw [es] at hs
      (try simp (maxSteps := 1000000) (dsimp := false) (disch := (first | omega | (simp only [okR]; done) | (simp only [sizeR] <;> omega) | fail)) only [↓preR, postR, ↓w_stop, Nat.reduceEqDiff, Nat.reduceAdd, Nat.reduceSub, Nat.reduceMul, Int.reduceNeg, Nat.reduceLT, Int.reduceToNat, Nat.reduceLeDiff, Nat.sub_zero])
      refine join_now ?_
      (try simp (maxSteps := 1000000) (dsimp := false) (disch := (first | omega | (simp only [okR]; done) | (simp only [sizeR] <;> omega) | fail)) only [↓preR, postR, ↓w_stop, Nat.reduceEqDiff, Nat.reduceAdd, Nat.reduceSub, Nat.reduceMul, Int.reduceNeg, Nat.reduceLT, Int.reduceToNat, Nat.reduceLeDiff, Nat.sub_zero])
      exact hs
    by_cases c33 : c = 33
    · have n33 : (c.toNat : Int) = 33 := by rw [c33]; rfl
      have n43 : ¬ (c.toNat : Int) = 43 := by omega
      have n45 : ¬ (c.toNat : Int) = 45 := by omega
      (try simp (maxSteps := 1000000) (dsimp := false) (disch := (first | omega | (simp only [okR]; done) | (simp only [sizeR] <;> omega) | fail)) only [↓preR, postR, ↓w_stop, Nat.reduceEqDiff, Nat.reduceAdd, Nat.reduceSub, Nat.reduceMul, Int.reduceNeg, Nat.reduceLT, Int.reduceToNat, Nat.reduceLeDiff, Nat.sub_zero, o1, Option.getD_some, n43, n45, n33, et])
      refine sub _ fun v st' b' u' s2 a2 h4 => ?_
      have hs := sign v st' b' u' s2 (.inr (.inr (.inl c33))) a2 h4
      have es : signV c v = truthI (decide (v = 0)) := by unfold signV; rw [if_neg c45, if_pos c33]
      rw [es] at hs
      (try simp (maxSteps := 1000000) (dsimp := false) (disch := (first | omega | (simp only [okR]; done) | (simp only [sizeR] <;> omega) | fail)) only [↓preR, postR, ↓w_stop, Nat.reduceEqDiff, Nat.reduceAdd, Nat.reduceSub, Nat.reduceMul, Int.reduceNeg, Nat.reduceLT, Int.reduceToNat, Nat.reduceLeDiff, Nat.sub_zero])
      refine join_now ?_
      (try simp (maxSteps := 1000000) (dsimp := false) (disch := (first | omega | (simp only [okR]; done) | (simp only [sizeR] <;> omega) | fail)) only [↓preR, postR, ↓w_stop, Nat.reduceEqDiff, Nat.reduceAdd, Nat.reduceSub, Nat.reduceMul, Int.reduceNeg, Nat.reduceLT, Int.reduceToNat, Nat.reduceLeDiff, Nat.sub_zero])
      refine yes_c ?_
      (try simp (maxSteps := 1000000) (dsimp := false) (disch := (first | omega | (simp only [okR]; done) | (simp only [sizeR] <;> omega) | fail)) only [↓preR, postR, ↓w_stop, Nat.reduceEqDiff, Nat.reduceAdd, Nat.reduceSub, Nat.reduceMul, Int.reduceNeg, Nat.reduceLT, Int.reduceToNat, Nat.reduceLeDiff, Nat.sub_zero])
      exact hs
    by_cases c126 : c = 126
    · have n126 : (c.toNat : Int) = 126 := by rw [c126]; rfl
      have n43 : ¬ (c.toNat : Int) = 43 := by omega
      have n45 : ¬ (c.toNat : Int) = 45 := by omega
      have n33 : ¬ (c.toNat : Int) = 33 := by omega
      (try simp (maxSteps := 1000000) (dsimp := false) (disch := (first | omega | (simp only [okR]; done) | (simp only [sizeR] <;> omega) | fail)) only [↓preR, postR, ↓w_stop, Nat.reduceEqDiff, Nat.reduceAdd, Nat.reduceSub, Nat.reduceMul, Int.reduceNeg, Nat.reduceLT, Int.reduceToNat, Nat.reduceLeDiff, Nat.sub_zero, o1, Option.getD_some, n43, n45, n33, n126, et])
      refine sub _ fun v st' b' u' s2 a2 h4 => ?_
      have hs := sign v st' b' u' s2 (.inr (.inr (.inr c126))) a2 h4
      have es : signV c v = -v - 1 := by unfold signV; rw [if_neg c45, if_neg c33, if_pos c126]
      rw [es] at hs
      have hx := xorI a2.num
      (try simp (maxSteps := 1000000) (dsimp := false) (disch := (first | omega | (simp only [okR]; done) | (simp only [sizeR] <;> omega) | fail)) only [↓preR, postR, ↓w_stop, Nat.reduceEqDiff, Nat.reduceAdd, Nat.reduceSub, Nat.reduceMul, Int.reduceNeg, Nat.reduceLT, Int.reduceToNat, Nat.reduceLeDiff, Nat.sub_zero])
      refine join_now ?_
      (try simp (maxSteps := 1000000) (dsimp := false) (disch := (first | omega | (simp only [okR]; done) | (simp only [sizeR] <;> omega) | fail)) only [↓preR, postR, ↓w_stop, Nat.reduceEqDiff, Nat.reduceAdd, Nat.reduceSub, Nat.reduceMul, Int.reduceNeg, Nat.reduceLT, Int.reduceToNat, Nat.reduceLeDiff, Nat.sub_zero, hx])
      exact hs
    have csg : ¬ (c = 43 ∨ c = 45 ∨ c = 33 ∨ c = 126) := by rintro (h | h | h | h) <;> contradiction
    have n43 : ¬ (c.toNat : Int) = 43 := hcn 43 c43
    have n45 : ¬ (c.toNat : Int) = 45 := hcn 45 c45
    have n33 : ¬ (c.toNat : Int) = 33 := hcn 33 c33
    have n126 : ¬ (c.toNat : Int) = 126 := hcn 126 c126
    by_cases c40 : c = 40
    · have n40 : (c.toNat : Int) = 40 := by rw [c40]; rfl
      (try simp (maxSteps := 1000000) (dsimp := false) (disch := (first | omega | (simp only [okR]; done) | (simp only [sizeR] <;> omega) | fail)) only [↓preR, postR, ↓w_stop, Nat.reduceEqDiff, Nat.reduceAdd, Nat.reduceSub, Nat.reduceMul, Int.reduceNeg, Nat.reduceLT, Int.reduceToNat, Nat.reduceLeDiff, Nat.sub_zero, o1, Option.getD_some, n43, n45, n33, n126, n40, et])
      refine ih.1 _ _ _ (st.skip.at t) false u i hfs it hg h3 fun v st' b' u' s2 a2 h4 => ?_
      have hl2 : st'.left.length ≤ 1000000 := by
        have := a2.lq.left
        have e : (st.skip.at t).left.length = t.length := rfl
        omega
      (try simp (maxSteps := 1000000) (dsimp := false) (disch := (first | omega | (simp only [okR]; done) | (simp only [sizeR] <;> omega) | fail)) only [↓preR, postR, ↓w_stop, Nat.reduceEqDiff, Nat.reduceAdd, Nat.reduceSub, Nat.reduceMul, Int.reduceNeg, Nat.reduceLT, Int.reduceToNat, Nat.reduceLeDiff, Nat.sub_zero])
      refine next_c hO hl2 h4 fun s3 h5 => ?_
      (try simp (maxSteps := 1000000) (dsimp := false) (disch := (first | omega | (simp only [okR]; done) | (simp only [sizeR] <;> omega) | fail)) only [↓preR, postR, ↓w_stop, Nat.reduceEqDiff, Nat.reduceAdd, Nat.reduceSub, Nat.reduceMul, Int.reduceNeg, Nat.reduceLT, Int.reduceToNat, Nat.reduceLeDiff, Nat.sub_zero])
      have hev : ∀ q, ev (lookV vars) (f + 1) .opnd st = q → q = (match ev (lookV vars) f .set (st.skip.at t) with
          | none => none
          | some (n, s1) => match skipB s1.left with
            | 41 :: t2 => some (n, s1.at t2)
            | _ => none) := by
        intro q hq
        rw [← hq]
        conv => lhs; unfold ev
        simp only [hl]
        rw [if_neg csg, if_pos c40]
        rfl
      by_cases h41 : nextP st'.skip.left = [41]
      · obtain ⟨t2, ht2⟩ := (next_one (.inl rfl) _).1 h41
        have o3 : s3.m p = some (.cells [.string (bs (41 :: t2)), .map (some m), vv, u', .int .i64 st'.skip.over, .bool b', .int .i64 st'.skip.fell]) := by rw [← ht2]; exact h5.obj
        have h6 := h5.put (cs' := wkC (st'.skip.at t2) b' m vv u')
        have et2 : List.take (t2.length + 1 - 1) t2 = t2 := List.take_of_length_le (by omega)
        (try simp (maxSteps := 1000000) (dsimp := false) (disch := (first | omega | (simp only [okR]; done) | (simp only [sizeR] <;> omega) | fail)) only [↓preR, postR, ↓w_stop, Nat.reduceEqDiff, Nat.reduceAdd, Nat.reduceSub, Nat.reduceMul, Int.reduceNeg, Nat.reduceLT, Int.reduceToNat, Nat.reduceLeDiff, Nat.sub_zero, h41, o3, et2])
        refine hk v (st'.skip.at t2) b' u' _ ⟨a2.num, a2.over, ((lt.trans a2.lq).skip).at (by rw [ht2]; simp), fun h => (by cases h), fun _ => ?_⟩ h6
        have a3 := a2.ok rfl
        have e := hev _ rfl
        rw [e]
        cases he : ev (lookV vars) f .set (st.skip.at t) with
        | none => rw [he] at a3; exact a3
        | some q =>
          rw [he] at a3
          obtain ⟨n, s2'⟩ := q
          obtain ⟨rfl, rfl, rfl⟩ := a3
          have ht3 : skipB st'.left = 41 :: t2 := ht2
          simp only [ht3]
          first
            | exact ⟨rfl, rfl, rfl⟩
            | (simp; rfl)
      · have h6 := h5.put (cs' := wkC st'.skip true m vv u')
        (try simp (maxSteps := 1000000) (dsimp := false) (disch := (first | omega | (simp only [okR]; done) | (simp only [sizeR] <;> omega) | fail)) only [↓preR, postR, ↓w_stop, Nat.reduceEqDiff, Nat.reduceAdd, Nat.reduceSub, Nat.reduceMul, Int.reduceNeg, Nat.reduceLT, Int.reduceToNat, Nat.reduceLeDiff, Nat.sub_zero, h41, h5.obj])
        refine hk 0 st'.skip true u' _ ⟨by unfold inI64; omega, a2.over, (lt.trans a2.lq).skip, fun h => (by cases h), fun _ => ?_⟩ h6
        have a3 := a2.ok rfl
        have e := hev _ rfl
        rw [e]
        cases he : ev (lookV vars) f .set (st.skip.at t) with
        | none => rfl
        | some q =>
          rw [he] at a3
          obtain ⟨n, s2'⟩ := q
          obtain ⟨rfl, rfl, rfl⟩ := a3
          have hno : ∀ t2, ¬ skipB st'.left = 41 :: t2 := fun t2 h => h41 ((next_one (.inl rfl) _).2 ⟨t2, h⟩)
          have hm : (match skipB st'.left with | 41 :: t2 => some (v, st'.at t2) | _ => none) = none := by
            split
            · rename_i t2 h; exact absurd h (hno t2)
            · rfl
          simp only [hm]
    have n40 : ¬ (c.toNat : Int) = 40 := hcn 40 c40
    have lfr : ∀ n, Lq B st (st.skip.at ((c :: t).drop n)) := fun n => lq0.at (by rw [hl, List.length_drop]; omega)
    have hctl : (c :: t).length ≤ 1000000 := by simp only [List.length_cons]; omega
    by_cases hA : alphaB c = true
    · (try simp (maxSteps := 1000000) (dsimp := false) (disch := (first | omega | (simp only [okR]; done) | (simp only [sizeR] <;> omega) | fail)) only [↓preR, postR, ↓w_stop, Nat.reduceEqDiff, Nat.reduceAdd, Nat.reduceSub, Nat.reduceMul, Int.reduceNeg, Nat.reduceLT, Int.reduceToNat, Nat.reduceLeDiff, Nat.sub_zero, o1, Option.getD_some, n43, n45, n33, n126, n40])
      refine alpha_c ?_
      rw [hA]
      (try simp (maxSteps := 1000000) (dsimp := false) (disch := (first | omega | (simp only [okR]; done) | (simp only [sizeR] <;> omega) | fail)) only [↓preR, postR, ↓w_stop, Nat.reduceEqDiff, Nat.reduceAdd, Nat.reduceSub, Nat.reduceMul, Int.reduceNeg, Nat.reduceLT, Int.reduceToNat, Nat.reduceLeDiff, Nat.sub_zero, o1])
      refine front_c (by unfold maxLen; omega) ?_
      have hfl := front_le 0 (c :: t)
      obtain ⟨n, hn⟩ : ∃ n, n = frontF 0 (c :: t) := ⟨_, rfl⟩
      rw [← hn] at hfl ⊢
      have hfl2 : n ≤ t.length + 1 := hfl
      have etk : List.take (t.length + 1 - n) ((c :: t).drop n) = (c :: t).drop n := List.take_of_length_le (by rw [List.length_drop]; simp)
      have etl : ((c :: t).take n).length = n := by rw [List.length_take]; omega
      have h5 : Hs (s1.put p (.cells (wkC (st.skip.at ((c :: t).drop n)) false m vv u))) X (WkR p m ops vv u (st.skip.at ((c :: t).drop n)) false R) := h1.put
      (try simp (maxSteps := 1000000) (dsimp := false) (disch := (first | omega | (simp only [okR]; done) | (simp only [sizeR] <;> omega) | fail)) only [↓preR, postR, ↓w_stop, Nat.reduceEqDiff, Nat.reduceAdd, Nat.reduceSub, Nat.reduceMul, Int.reduceNeg, Nat.reduceLT, Int.reduceToNat, Nat.reduceLeDiff, Nat.sub_zero, o1, etk, etl])
      refine ask_c (st := st.skip.at ((c :: t).drop n)) (B := B) hV hE hI.s h5 fun s2 h6 => ?_
      have hask := ask_ok hL (st := st.skip.at ((c :: t).drop n)) hI.s ((c :: t).take n)
      have eb : askB (lookV vars) (st.skip.at ((c :: t).drop n)) false ((c :: t).take n) = askP (lookV vars) (st.skip.at ((c :: t).drop n)) ((c :: t).take n) := rfl
      rw [eb] at h6 ⊢
      (try simp (maxSteps := 1000000) (dsimp := false) (disch := (first | omega | (simp only [okR]; done) | (simp only [sizeR] <;> omega) | fail)) only [↓preR, postR, ↓w_stop, Nat.reduceEqDiff, Nat.reduceAdd, Nat.reduceSub, Nat.reduceMul, Int.reduceNeg, Nat.reduceLT, Int.reduceToNat, Nat.reduceLeDiff, Nat.sub_zero])
      refine hk _ _ _ _ _ ⟨hask.2.2.2, hask.1, (lfr n).same hask.2.1 hask.2.2.1, fun h => (by cases h), fun _ => ?_⟩ h6
      unfold ev
      simp only [hl]
      rw [if_neg csg, if_neg c40, if_pos hA, ← hn]
      first
        | exact ⟨rfl, rfl, rfl⟩
        | (simp; done)
        | (simp; rfl)
    by_cases hD : digitB c = true
    · (try simp (maxSteps := 1000000) (dsimp := false) (disch := (first | omega | (simp only [okR]; done) | (simp only [sizeR] <;> omega) | fail)) only [↓preR, postR, ↓w_stop, Nat.reduceEqDiff, Nat.reduceAdd, Nat.reduceSub, Nat.reduceMul, Int.reduceNeg, Nat.reduceLT, Int.reduceToNat, Nat.reduceLeDiff, Nat.sub_zero, o1, Option.getD_some, n43, n45, n33, n126, n40])
      refine alpha_c ?_
      cases hA2 : alphaB c with
      | true => exact absurd hA2 hA
      | false =>
      (try simp (maxSteps := 1000000) (dsimp := false) (disch := (first | omega | (simp only [okR]; done) | (simp only [sizeR] <;> omega) | fail)) only [↓preR, postR, ↓w_stop, Nat.reduceEqDiff, Nat.reduceAdd, Nat.reduceSub, Nat.reduceMul, Int.reduceNeg, Nat.reduceLT, Int.reduceToNat, Nat.reduceLeDiff, Nat.sub_zero])
      refine digit_c ?_
      rw [hD]
      (try simp (maxSteps := 1000000) (dsimp := false) (disch := (first | omega | (simp only [okR]; done) | (simp only [sizeR] <;> omega) | fail)) only [↓preR, postR, ↓w_stop, Nat.reduceEqDiff, Nat.reduceAdd, Nat.reduceSub, Nat.reduceMul, Int.reduceNeg, Nat.reduceLT, Int.reduceToNat, Nat.reduceLeDiff, Nat.sub_zero, o1])
      refine front_c (s := 95 :: c :: t) (by simp only [List.length_cons]; unfold maxLen; omega) ?_
      have h95 : frontF 0 (95 :: c :: t) = 1 + frontF 1 (c :: t) := by
        show (if alphaB 95 || _ then 1 + frontF 1 (c :: t) else 0) = _
        rw [show alphaB 95 = true from by decide +kernel, Bool.true_or, if_pos rfl]
      have hfl := front_le 1 (c :: t)
      obtain ⟨n, hn⟩ : ∃ n, n = frontF 1 (c :: t) := ⟨_, rfl⟩
      rw [h95]
      rw [← hn] at hfl ⊢
      have hfl2 : n ≤ t.length + 1 := hfl
      have etk : List.take (t.length + 1 - n) ((c :: t).drop n) = (c :: t).drop n := List.take_of_length_le (by rw [List.length_drop]; simp)
      have en : (((1 + n : Nat) : Int) - 1) = (n : Int) := by omega
      (try simp (maxSteps := 1000000) (dsimp := false) (disch := (first | omega | (simp only [okR]; done) | (simp only [sizeR] <;> omega) | fail)) only [↓preR, postR, ↓w_stop, Nat.reduceEqDiff, Nat.reduceAdd, Nat.reduceSub, Nat.reduceMul, Int.reduceNeg, Nat.reduceLT, Int.reduceToNat, Nat.reduceLeDiff, Nat.sub_zero, en, o1])
      have hw : ((c :: t).take n).length ≤ 1000000 := by rw [List.length_take]; omega
      obtain ⟨te1, pe1, hS⟩ := hE.s
      obtain ⟨te2, pe2, hR⟩ := hE.r
      refine num_c hS hR hw h1 fun v ok s2 hr h2 => ?_
      have o2 : s2.m p = some (.cells [.string (bs (c :: t)), .map (some m), vv, u, .int .i64 st.skip.over, .bool false, .int .i64 st.skip.fell]) := by rw [← hl]; exact h2.obj
      (try simp (maxSteps := 1000000) (dsimp := false) (disch := (first | omega | (simp only [okR]; done) | (simp only [sizeR] <;> omega) | fail)) only [↓preR, postR, ↓w_stop, Nat.reduceEqDiff, Nat.reduceAdd, Nat.reduceSub, Nat.reduceMul, Int.reduceNeg, Nat.reduceLT, Int.reduceToNat, Nat.reduceLeDiff, Nat.sub_zero, o2, etk])
      have evd : ev (lookV vars) (f + 1) .opnd st = (match numP ((c :: t).take n) with
          | none => none
          | some n1 => if 9223372036854775808 ≤ n1 then none else some ((n1 : Int), st.skip.at ((c :: t).drop n))) := by
        conv => lhs; unfold ev
        simp only [hl]
        rw [if_neg csg, if_neg c40, if_neg hA, if_pos hD, ← hn]
        rfl
      have badp : ∀ v0 : Int, (∀ n1, numP ((c :: t).take n) = some n1 → 9223372036854775808 ≤ n1) → k (.int .i64 (IntKind.i64.wrap v0)) (s2.put p (.cells (wkC (st.skip.at ((c :: t).drop n)) true m vv u))) := by
        intro v0 hno
        refine hk _ (st.skip.at ((c :: t).drop n)) true u _ ⟨wI_in _, rfl, lfr n, fun h => (by cases h), fun _ => ?_⟩ h2.put
        rw [evd]
        cases hq : numP ((c :: t).take n) with
        | none => rfl
        | some n1 => simp only [if_pos (hno n1 hq)]
      rcases hr with ⟨n1, q1, q2, rfl, rfl⟩ | ⟨rfl, q2, q3, q4⟩
      · by_cases hbig : 9223372036854775808 ≤ n1
        · have hbig' : 9223372036854775808 ≤ (n1 : Int) := by omega
          (try simp (maxSteps := 1000000) (dsimp := false) (disch := (first | omega | (simp only [okR]; done) | (simp only [sizeR] <;> omega) | fail)) only [↓preR, postR, ↓w_stop, Nat.reduceEqDiff, Nat.reduceAdd, Nat.reduceSub, Nat.reduceMul, Int.reduceNeg, Nat.reduceLT, Int.reduceToNat, Nat.reduceLeDiff, Nat.sub_zero, hbig', o2])
          exact badp _ (fun n2 h => by rw [q1] at h; cases h; exact hbig)
        · have hbig' : ¬ 9223372036854775808 ≤ (n1 : Int) := by omega
          have w1 : IntKind.i64.wrap (n1 : Int) = (n1 : Int) := wrap64 _ (by omega) (by omega)
          (try simp (maxSteps := 1000000) (dsimp := false) (disch := (first | omega | (simp only [okR]; done) | (simp only [sizeR] <;> omega) | fail)) only [↓preR, postR, ↓w_stop, Nat.reduceEqDiff, Nat.reduceAdd, Nat.reduceSub, Nat.reduceMul, Int.reduceNeg, Nat.reduceLT, Int.reduceToNat, Nat.reduceLeDiff, Nat.sub_zero, hbig', w1, o2])
          refine hk (n1 : Int) (st.skip.at ((c :: t).drop n)) false u _ ⟨by unfold inI64; omega, rfl, lfr n, fun h => (by cases h), fun _ => ?_⟩ h2.put
          rw [evd, q1]
          simp only [if_neg hbig]
          first
            | exact ⟨rfl, rfl, rfl⟩
            | (simp; done)
            | (simp; rfl)
      · (try simp (maxSteps := 1000000) (dsimp := false) (disch := (first | omega | (simp only [okR]; done) | (simp only [sizeR] <;> omega) | fail)) only [↓preR, postR, ↓w_stop, Nat.reduceEqDiff, Nat.reduceAdd, Nat.reduceSub, Nat.reduceMul, Int.reduceNeg, Nat.reduceLT, Int.reduceToNat, Nat.reduceLeDiff, Nat.sub_zero, o2])
        exact badp _ (fun n2 h => by have := q2 n2 h; omega)
    (try simp (maxSteps := 1000000) (dsimp := false) (disch := (first | omega | (simp only [okR]; done) | (simp only [sizeR] <;> omega) | fail)) only [↓preR, postR, ↓w_stop, Nat.reduceEqDiff, Nat.reduceAdd, Nat.reduceSub, Nat.reduceMul, Int.reduceNeg, Nat.reduceLT, Int.reduceToNat, Nat.reduceLeDiff, Nat.sub_zero, o1, Option.getD_some, n43, n45, n33, n126, n40])
    refine alpha_c ?_
    cases hA2 : alphaB c with
    | true => exact absurd hA2 hA
    | false =>
    (try simp (maxSteps := 1000000) (dsimp := false) (disch := (first | omega | (simp only [okR]; done) | (simp only [sizeR] <;> omega) | fail)) only [↓preR, postR, ↓w_stop, Nat.reduceEqDiff, Nat.reduceAdd, Nat.reduceSub, Nat.reduceMul, Int.reduceNeg, Nat.reduceLT, Int.reduceToNat, Nat.reduceLeDiff, Nat.sub_zero])
    refine digit_c ?_
    cases hD2 : digitB c with
    | true => exact absurd hD2 hD
    | false =>
    (try simp (maxSteps := 1000000) (dsimp := false) (disch := (first | omega | (simp only [okR]; done) | (simp only [sizeR] <;> omega) | fail)) only [↓preR, postR, ↓w_stop, Nat.reduceEqDiff, Nat.reduceAdd, Nat.reduceSub, Nat.reduceMul, Int.reduceNeg, Nat.reduceLT, Int.reduceToNat, Nat.reduceLeDiff, Nat.sub_zero])
    refine hJ2 _ _ ?_
    (try simp (maxSteps := 1000000) (dsimp := false) (disch := (first | omega | (simp only [okR]; done) | (simp only [sizeR] <;> omega) | fail)) only [↓preR, postR, ↓w_stop, Nat.reduceEqDiff, Nat.reduceAdd, Nat.reduceSub, Nat.reduceMul, Int.reduceNeg, Nat.reduceLT, Int.reduceToNat, Nat.reduceLeDiff, Nat.sub_zero, o1])
    refine hk 0 st.skip true u _ ⟨by unfold inI64; omega, rfl, lq0, fun h => (by cases h), fun _ => ?_⟩ (by have h9 := h1.put (cs' := wkC st.skip true m vv u); rw [← hl]; exact h9)
    unfold ev
    simp only [hl]
    rw [if_neg csg, if_neg c40, if_neg hA, if_neg hD]
    trivial
end
end Go.Proofs.YtkbpbagjbjkpmaaGreatDoor

/- The worker at an expression: operators of a rank. Conditions: as each theorem says. -/
namespace Go.Proofs.YtkbpbagjbjkpmaaGreatDoor
open E Go.Lib
open Rp
set_option linter.unusedVariables false
set_option linter.unusedSimpArgs false
set_option maxHeartbeats 1000000
set_option maxRecDepth 20000

theorem ev_rank_hi {look : Str → Int × Int} {f r : Nat} {st : ASt} (h : 10 < r) : ev look (f + 1) (.rank r) st = ev look f .opnd st := by
  conv => lhs; unfold ev
  rw [if_pos h]
theorem ev_rank_lo {look : Str → Int × Int} {f r : Nat} {st : ASt} (h : ¬ 10 < r) : ev look (f + 1) (.rank r) st = match ev look f (.rank (r + 1)) st with | none => none | some (a, s1) => ev look f (.loop r a) s1 := by
  conv => lhs; unfold ev
  rw [if_neg h]
  cases ev look f (.rank (r + 1)) st with
  | none => rfl
  | some q => rfl
theorem ev_loop_out {look : Str → Int × Int} {f r : Nat} {a : Int} {st : ASt} (h : ¬ rankOf (nextP st.skip.left) = r) : ev look (f + 1) (.loop r a) st = some (a, st.skip) := by
  conv => lhs; unfold ev
  simp only
  rw [if_neg (fun h2 => h h2.1)]
/-- Where the loop over a rank's operators stands. -/
structure LoopI (B : Nat) (look : Str → Int × Int) (f r : Nat) (st : ASt) (b : Bool) (v : Int) (st1 : ASt) (b1 : Bool) : Prop where
  num : inI64 v
  over : st1.over = st.over
  lq : Lq B st st1
  bad : b = true → b1 = true
  gone : b1 = true → b = false → ev look (f + 1) (.rank r) st = none
  on : b1 = false → ∃ f', f' ≤ f ∧ needs (.loop r v) st1.left.length ≤ f' ∧ ev look (f + 1) (.rank r) st = ev look f' (.loop r v) st1
section
variable {X : Ce} {p m : Nat} {ops : List (Str × Value)} {vv : Value} {B : Nat} {look : Str → Int × Int} {g : Nat} {o : Go.Obj} {σ : AS} {k : Value → AS → Prop} {vars : List (Str × Str)}
theorem rank_one {op : Str} (h : rankOf op = 1) : op = [124, 124] := by
  unfold rankOf at h
  split at h <;> first | rfl | (exfalso; revert h; decide)
theorem rank_two {op : Str} (h : rankOf op = 2) : op = [38, 38] := by
  unfold rankOf at h
  split at h <;> first | rfl | (exfalso; revert h; decide)
theorem rank1_c {f0 r : Nat} (hr : r + 1 ≤ 11) (ih : AllC X p m ops vv B look g o f0) {RR : List Ck} {q1 q2 j1 j2 i : Nat} (hq1 : RR[j1]? = some (Cel q1 [pvw p])) (hq2 : RR[j2]? = some (Cel q2 [.int .i64 r])) (hgo : RR[i]? = some (Oth g o))
    {st2 : ASt} {u2 : Value} (hn : needs (.rank (r + 1)) st2.left.length ≤ f0) (hI : InvS B st2) (h : Hs σ X (WkR p m ops vv u2 st2 false RR))
    (hk : ∀ v st' b' u' σ', After B look f0 (.rank (r + 1)) st2 false v st' b' → Hs σ' X (WkR p m ops vv u' st' b' RR) → k (.int .i64 v) σ') :
    kCallv Tryz.prog (.func (.func 102) #[] #[.pointer (some ⟨q1, 0, none⟩), .pointer (some ⟨q2, 0, none⟩)]) [] σ k := by
  refine callv_by (a := []) (b := [.pointer (some ⟨q1, 0, none⟩), .pointer (some ⟨q2, 0, none⟩)]) (by kernel_rfl) ?_
  refine f102 ?_
  have w1 := (h.front (j1 + 3) hq1).obj
  have w2 := (h.front (j2 + 3) hq2).obj
  have er : (r : Int) + 1 = ((r + 1 : Nat) : Int) := by omega
  (try simp (maxSteps := 1000000) (dsimp := false) (disch := (first | omega | (simp only [okR]; done) | (simp only [sizeR] <;> omega) | fail)) only [↓preR, postR, ↓w_stop, Nat.reduceEqDiff, Nat.reduceAdd, Nat.reduceSub, Nat.reduceMul, Int.reduceNeg, Nat.reduceLT, Int.reduceToNat, Nat.reduceLeDiff, Nat.sub_zero, F102, w1, w2, er])
  refine ih.2.2.1 (r + 1) (by omega) hr _ _ _ st2 false u2 i hn hI hgo h fun v st' b' u' σ' a h' => ?_
  (try simp (maxSteps := 1000000) (dsimp := false) (disch := (first | omega | (simp only [okR]; done) | (simp only [sizeR] <;> omega) | fail)) only [↓preR, postR, ↓w_stop, Nat.reduceEqDiff, Nat.reduceAdd, Nat.reduceSub, Nat.reduceMul, Int.reduceNeg, Nat.reduceLT, Int.reduceToNat, Nat.reduceLeDiff, Nat.sub_zero])
  exact hk v st' b' u' σ' a h'
theorem ev_loop_in {look : Str → Int × Int} {f r : Nat} {a : Int} {st : ASt} (h : rankOf (nextP st.skip.left) = r) (hr : ¬ r = 0) : ev look (f + 1) (.loop r a) st =
    match ev look f (.rank (r + 1)) ((st.skip.at (st.skip.left.drop (nextP st.skip.left).length)).pass (if r = 1 then decide (a = 0) else if r = 2 then decide (¬ a = 0) else true)) with
    | none => none
    | some (b, s2) =>
      if r = 1 then ev look f (.loop r (truthI (decide (¬ a = 0) || decide (¬ b = 0)))) (s2.un st.over)
      else if r = 2 then ev look f (.loop r (truthI (decide (¬ a = 0) && decide (¬ b = 0)))) (s2.un st.over)
      else ev look f (.loop r (doesP (nextP st.skip.left) a b (s2.un st.over)).1) (doesP (nextP st.skip.left) a b (s2.un st.over)).2 := by
  conv => lhs; unfold ev
  simp only
  rw [if_pos ⟨h, hr⟩]
  generalize ev look f (.rank (r + 1)) _ = e
  cases e with
  | none => rfl
  | some q => rfl
theorem rank_c {f r : Nat} (hr1 : 1 ≤ r) (hr : r ≤ 11) (hB : B ≤ 1000000) (hO : OpsOk X ops) (hE : ErrI X) (hV : VarsI X vv vars) (hL : LookI (lookV vars)) (ih : ∀ f0, f0 ≤ f → AllC X p m ops vv B (lookV vars) g o f0) : FnC X p m ops vv B (lookV vars) g o 81 [.int .i64 r] (.rank r) (f + 1) := by
  intro σ R k st b u i hf hI hg h hk
  refine f81 ?_
  have hlB := hI.n
  have h2 : Hs ((σ.new (.cells [pvw p])).new (.cells [.int .i64 r])) X (WkR p m ops vv u st b (Cel (σ.new (.cells [pvw p])).n [.int .i64 r] :: Cel σ.n [pvw p] :: R)) := (h.new (cs := [pvw p])).un3.new.un3
  (try simp (maxSteps := 1000000) (dsimp := false) (disch := (first | omega | (simp only [okR]; done) | (simp only [sizeR] <;> omega) | fail)) only [↓preR, postR, ↓w_stop, Nat.reduceEqDiff, Nat.reduceAdd, Nat.reduceSub, Nat.reduceMul, Int.reduceNeg, Nat.reduceLT, Int.reduceToNat, Nat.reduceLeDiff, Nat.sub_zero, F81])
  generalize (σ.new (.cells [pvw p])).new (.cells [.int .i64 r]) = s2 at h2 ⊢
  generalize (σ.new (.cells [pvw p])).n = q2 at h2 ⊢
  generalize σ.n = q1 at h2 ⊢
  have hg2 : (Cel q2 [.int .i64 r] :: Cel q1 [pvw p] :: R)[i + 2]? = some (Oth g o) := hg
  have w1 := h2.obj4
  have w2 := h2.obj3
  by_cases h10 : 10 < r
  · have h10' : 10 < (r : Int) := by omega
    refine join_now ?_
    (try simp (maxSteps := 1000000) (dsimp := false) (disch := (first | omega | (simp only [okR]; done) | (simp only [sizeR] <;> omega) | fail)) only [↓preR, postR, ↓w_stop, Nat.reduceEqDiff, Nat.reduceAdd, Nat.reduceSub, Nat.reduceMul, Int.reduceNeg, Nat.reduceLT, Int.reduceToNat, Nat.reduceLeDiff, Nat.sub_zero, w1, w2, h10'])
    refine (ih f (Nat.le_refl _)).2.2.2 _ _ _ st b u (i + 2) (by simp only [needs] at hf ⊢; omega) hI hg2 h2 fun v st' b' u' s3 a h3 => ?_
    (try simp (maxSteps := 1000000) (dsimp := false) (disch := (first | omega | (simp only [okR]; done) | (simp only [sizeR] <;> omega) | fail)) only [↓preR, postR, ↓w_stop, Nat.reduceEqDiff, Nat.reduceAdd, Nat.reduceSub, Nat.reduceMul, Int.reduceNeg, Nat.reduceLT, Int.reduceToNat, Nat.reduceLeDiff, Nat.sub_zero])
    refine hk v st' b' u' s3 ⟨a.num, a.over, a.lq, a.bad, fun hb => ?_⟩ ((h3.front 3 rfl).drop.front 3 rfl).drop
    rw [ev_rank_hi h10]
    exact a.ok hb
  have h10' : ¬ 10 < (r : Int) := by omega
  have er : (r : Int) + 1 = ((r + 1 : Nat) : Int) := by omega
  refine join_now ?_
  (try simp (maxSteps := 1000000) (dsimp := false) (disch := (first | omega | (simp only [okR]; done) | (simp only [sizeR] <;> omega) | fail)) only [↓preR, postR, ↓w_stop, Nat.reduceEqDiff, Nat.reduceAdd, Nat.reduceSub, Nat.reduceMul, Int.reduceNeg, Nat.reduceLT, Int.reduceToNat, Nat.reduceLeDiff, Nat.sub_zero, w1, w2, h10', er])
  refine (ih f (Nat.le_refl _)).2.2.1 (r + 1) (by omega) (by omega) _ _ _ st b u (i + 2) (by simp only [needs] at hf ⊢; omega) hI hg2 h2 fun v st1 b1 u1 s3 a h3 => ?_
  (try simp (maxSteps := 1000000) (dsimp := false) (disch := (first | omega | (simp only [okR]; done) | (simp only [sizeR] <;> omega) | fail)) only [↓preR, postR, ↓w_stop, Nat.reduceEqDiff, Nat.reduceAdd, Nat.reduceSub, Nat.reduceMul, Int.reduceNeg, Nat.reduceLT, Int.reduceToNat, Nat.reduceLeDiff, Nat.sub_zero])
  refine join_by fun J2 hJ2 => ?_
  have fin : ∀ (v : Int) st' b' u' s4, After B (lookV vars) (f + 1) (.rank r) st b v st' b' → Hs s4 X (WkR p m ops vv u' st' b' (Cel q2 [.int .i64 r] :: Cel q1 [pvw p] :: R)) → J2 [.int .i64 v] s4 := by
    intro v st' b' u' s4 a' h4
    refine hJ2 _ _ ?_
    (try simp (maxSteps := 1000000) (dsimp := false) (disch := (first | omega | (simp only [okR]; done) | (simp only [sizeR] <;> omega) | fail)) only [↓preR, postR, ↓w_stop, Nat.reduceEqDiff, Nat.reduceAdd, Nat.reduceSub, Nat.reduceMul, Int.reduceNeg, Nat.reduceLT, Int.reduceToNat, Nat.reduceLeDiff, Nat.sub_zero])
    exact hk v st' b' u' s4 a' ((h4.front 3 rfl).drop.front 3 rfl).drop
  clear hJ2
  (try simp (maxSteps := 1000000) (dsimp := false) (disch := (first | omega | (simp only [okR]; done) | (simp only [sizeR] <;> omega) | fail)) only [↓preR, postR, ↓w_stop, Nat.reduceEqDiff, Nat.reduceAdd, Nat.reduceSub, Nat.reduceMul, Int.reduceNeg, Nat.reduceLT, Int.reduceToNat, Nat.reduceLeDiff, Nat.sub_zero])
  refine loop_inv (fun nn xs s4 => ∃ v st1 b1 u1, xs = [.int .i64 v] ∧ LoopI B (lookV vars) f r st b v st1 b1 ∧ Hs s4 X (WkR p m ops vv u1 st1 b1 (Cel q2 [.int .i64 r] :: Cel q1 [pvw p] :: R)) ∧ nn = st1.left.length) _ ⟨v, st1, b1, u1, rfl, ⟨a.num, a.over, a.lq, a.bad, fun h1 h0 => ?_, fun h1 => ?_⟩, h3, rfl⟩ ?_
  · have h5 := a.ok h0
    rw [ev_rank_lo h10]
    cases he : ev (lookV vars) f (.rank (r + 1)) st with
    | none => rfl
    | some q =>
      rw [he] at h5
      obtain ⟨n, s5⟩ := q
      have := h5.2.2
      rw [h1] at this; cases this
  · have h0 : b = false := by
      cases b with
      | false => rfl
      | true => have := a.bad rfl; rw [h1] at this; cases this
    have h5 := a.ok h0
    have hl := a.lq.left
    refine ⟨f, Nat.le_refl _, by simp only [needs] at hf ⊢; omega, ?_⟩
    rw [ev_rank_lo h10]
    cases he : ev (lookV vars) f (.rank (r + 1)) st with
    | none => rw [he] at h5; have h5 : b1 = true := h5; rw [h1] at h5; cases h5
    | some q =>
      rw [he] at h5
      obtain ⟨n, s5⟩ := q
      obtain ⟨rfl, rfl, _⟩ := h5
      rfl
  clear hk a h3
  rintro _ _ s4 again ⟨v, st1, b1, u1, rfl, hI1, h4, rfl⟩ hag
  have w1 := h4.obj4
  have w2 := h4.obj3
  (try simp (maxSteps := 1000000) (dsimp := false) (disch := (first | omega | (simp only [okR]; done) | (simp only [sizeR] <;> omega) | fail)) only [↓preR, postR, ↓w_stop, Nat.reduceEqDiff, Nat.reduceAdd, Nat.reduceSub, Nat.reduceMul, Int.reduceNeg, Nat.reduceLT, Int.reduceToNat, Nat.reduceLeDiff, Nat.sub_zero])
  refine join_now ?_
  cases b1 with
  | true =>
    (try simp (maxSteps := 1000000) (dsimp := false) (disch := (first | omega | (simp only [okR]; done) | (simp only [sizeR] <;> omega) | fail)) only [↓preR, postR, ↓w_stop, Nat.reduceEqDiff, Nat.reduceAdd, Nat.reduceSub, Nat.reduceMul, Int.reduceNeg, Nat.reduceLT, Int.reduceToNat, Nat.reduceLeDiff, Nat.sub_zero, w1, h4.obj])
    exact fin _ _ _ _ _ ⟨hI1.num, hI1.over, hI1.lq, fun _ => rfl, fun h0 => by rw [hI1.gone rfl h0]⟩ h4
  | false =>
    have hb : b = false := by
      cases b with
      | false => rfl
      | true => have := hI1.bad rfl; cases this
    obtain ⟨f1, hf1, hn1, he1⟩ := hI1.on rfl
    obtain ⟨f2, rfl⟩ : ∃ f2, f1 = f2 + 1 := ⟨f1 - 1, by simp only [needs] at hn1; omega⟩
    have hl1 := hI1.lq.left
    (try simp (maxSteps := 1000000) (dsimp := false) (disch := (first | omega | (simp only [okR]; done) | (simp only [sizeR] <;> omega) | fail)) only [↓preR, postR, ↓w_stop, Nat.reduceEqDiff, Nat.reduceAdd, Nat.reduceSub, Nat.reduceMul, Int.reduceNeg, Nat.reduceLT, Int.reduceToNat, Nat.reduceLeDiff, Nat.sub_zero, w1, h4.obj])
    refine next_c hO (by omega) h4 fun s5 h5 => ?_
    have x1 := h5.obj4
    have x2 := h5.obj3
    obtain ⟨op, hop⟩ : ∃ op, op = nextP st1.skip.left := ⟨_, rfl⟩
    rw [← hop]
    (try simp (maxSteps := 1000000) (dsimp := false) (disch := (first | omega | (simp only [okR]; done) | (simp only [sizeR] <;> omega) | fail)) only [↓preR, postR, ↓w_stop, Nat.reduceEqDiff, Nat.reduceAdd, Nat.reduceSub, Nat.reduceMul, Int.reduceNeg, Nat.reduceLT, Int.reduceToNat, Nat.reduceLeDiff, Nat.sub_zero, x1, h5.obj])
    refine lk2_by (κ := Str) (k := op) (h5.front 2 rfl) Tryz.underlying45 Tryz.underlying9 zero_op ?_
    have out : ¬ rankOf op = r → ∀ s6, Hs s6 X (WkR p m ops vv u1 st1.skip false (Cel q2 [.int .i64 r] :: Cel q1 [pvw p] :: R)) → J2 [.int .i64 v] s6 := by
      intro hne s6 h6
      refine fin v st1.skip false u1 s6 ⟨hI1.num, hI1.over, hI1.lq.skip, fun h0 => (by rw [hb] at h0; cases h0), fun _ => ?_⟩ h6
      rw [he1, ev_loop_out (by rw [← hop]; exact hne)]
      exact ⟨rfl, rfl, rfl⟩
    have h6 : Hs _ X (Cel s5.n [Value.int .i64 0, Value.nilFunc] :: WkR p m ops vv u1 st1.skip false (Cel q2 [.int .i64 r] :: Cel q1 [pvw p] :: R)) := h5.new (cs := [Value.int .i64 0, Value.nilFunc])
    by_cases h0 : rankOf op = 0
    · have hno := hO.no _ h0
      unfold lkO at hno
      have h7 := h6.put (cs' := [Value.int .i64 0, Value.nilFunc])
      rw [hno]
      (try simp (maxSteps := 1000000) (dsimp := false) (disch := (first | omega | (simp only [okR]; done) | (simp only [sizeR] <;> omega) | fail)) only [↓preR, postR, ↓w_stop, Nat.reduceEqDiff, Nat.reduceAdd, Nat.reduceSub, Nat.reduceMul, Int.reduceNeg, Nat.reduceLT, Int.reduceToNat, Nat.reduceLeDiff, Nat.sub_zero, Option.getD_none, Option.isSome_none])
      refine join_now ?_
      (try simp (maxSteps := 1000000) (dsimp := false) (disch := (first | omega | (simp only [okR]; done) | (simp only [sizeR] <;> omega) | fail)) only [↓preR, postR, ↓w_stop, Nat.reduceEqDiff, Nat.reduceAdd, Nat.reduceSub, Nat.reduceMul, Int.reduceNeg, Nat.reduceLT, Int.reduceToNat, Nat.reduceLeDiff, Nat.sub_zero])
      exact out (by omega) _ h7.drop
    · obtain ⟨fv, fo1, fo2, _⟩ := hO.yes _ h0
      unfold lkO at fo1
      have h7 := h6.put (cs' := [Value.int .i64 (rankOf op), fv])
      have e2 : stS (s5.new (.cells [Value.int .i64 0, Value.nilFunc])) 2 (.pointer (some ⟨s5.n, 0, none⟩)) (.agg #[Value.int .i64 (rankOf op), fv]) = some ((s5.new (.cells [Value.int .i64 0, Value.nilFunc])).put s5.n (.cells [Value.int .i64 (rankOf op), fv])) := by
        have l2 : ([Value.int .i64 (rankOf op), fv] : List Value).all okCell = true := by simp [fo2]; rfl
        have ea : (#[Value.int .i64 (rankOf op), fv] : Array Value) = ([Value.int .i64 (rankOf op), fv] : List Value).toArray := rfl
        have e3 : ([Value.int .i64 (rankOf op), fv] : List Value).length = 2 := rfl
        rw [st_p, h6.obj, ea]
        refine (stN _ _ _ _ _ e3 l2).trans ?_
        rw [if_pos (by simp)]
        rfl
      rw [fo1]
      (try simp (maxSteps := 1000000) (dsimp := false) (disch := (first | omega | (simp only [okR]; done) | (simp only [sizeR] <;> omega) | fail)) only [↓preR, postR, ↓w_stop, Nat.reduceEqDiff, Nat.reduceAdd, Nat.reduceSub, Nat.reduceMul, Int.reduceNeg, Nat.reduceLT, Int.reduceToNat, Nat.reduceLeDiff, Nat.sub_zero, Option.getD_some, Option.isSome_some, ↓e2])
      generalize AS.put _ _ _ = s7 at h7 ⊢
      generalize s5.n = q3 at h7 ⊢
      refine join_by fun J5 hJ5 => ?_
      have y2 := h7.drop.obj3
      by_cases hrr : rankOf op = r
      rotate_left
      · have hrr' : ¬ (rankOf op : Int) = (r : Int) := by omega
        (try simp (maxSteps := 1000000) (dsimp := false) (disch := (first | omega | (simp only [okR]; done) | (simp only [sizeR] <;> omega) | fail)) only [↓preR, postR, ↓w_stop, Nat.reduceEqDiff, Nat.reduceAdd, Nat.reduceSub, Nat.reduceMul, Int.reduceNeg, Nat.reduceLT, Int.reduceToNat, Nat.reduceLeDiff, Nat.sub_zero, h7.obj, y2, hrr'])
        exact out hrr _ h7.drop
      · have hrr' : (rankOf op : Int) = (r : Int) := by omega
        (try simp (maxSteps := 1000000) (dsimp := false) (disch := (first | omega | (simp only [okR]; done) | (simp only [sizeR] <;> omega) | fail)) only [↓preR, postR, ↓w_stop, Nat.reduceEqDiff, Nat.reduceAdd, Nat.reduceSub, Nat.reduceMul, Int.reduceNeg, Nat.reduceLT, Int.reduceToNat, Nat.reduceLeDiff, Nat.sub_zero, h7.obj, y2, hrr'])
        refine hJ5 _ _ ?_
        clear hJ5
        have hsl : st1.skip.left.length ≤ st1.left.length := skip_len _
        have hop1 := rank_pos h0
        have hopl : op.length ≤ st1.skip.left.length := by rw [hop]; exact next_len _
        have etk : List.take (st1.skip.left.length - op.length) (st1.skip.left.drop op.length) = st1.skip.left.drop op.length := List.take_of_length_le (by rw [List.length_drop]; omega)
        have h8 : Hs (s7.put p (.cells [.string (bs (st1.skip.left.drop op.length)), .map (some m), vv, u1, .int .i64 st1.skip.over, .bool false, .int .i64 st1.skip.fell])) X (Cel q3 [.int .i64 (rankOf op), fv] :: WkR p m ops vv u1 (st1.skip.at (st1.skip.left.drop op.length)) false (Cel q2 [.int .i64 r] :: Cel q1 [pvw p] :: R)) := h7.put1
        have y1 := h7.drop.obj4
        (try simp (maxSteps := 1000000) (dsimp := false) (disch := (first | omega | (simp only [okR]; done) | (simp only [sizeR] <;> omega) | fail)) only [↓preR, postR, ↓w_stop, Nat.reduceEqDiff, Nat.reduceAdd, Nat.reduceSub, Nat.reduceMul, Int.reduceNeg, Nat.reduceLT, Int.reduceToNat, Nat.reduceLeDiff, Nat.sub_zero, y1, h7.obj1, etk])
        have h9 := h8.drop
        clear h8
        generalize AS.put _ _ _ = s8 at h9 ⊢
        have hlq2 : Lq B st (st1.skip.at (st1.skip.left.drop op.length)) := hI1.lq.skip.at (by rw [List.length_drop]; omega)
        have hd : (st1.skip.left.drop op.length).length + 1 ≤ st1.left.length := by rw [List.length_drop]; omega
        have hI2 : InvS B (st1.skip.at (st1.skip.left.drop op.length)) := hlq2.inv hI (Nat.le_of_eq hI1.over)
        have hei := ev_loop_in (look := lookV vars) (f := f2) (r := r) (a := v) (st := st1) (by rw [← hop]; exact hrr) (by omega)
        rw [← hop] at hei
        have hn2 : needs (.rank (r + 1)) (st1.skip.left.drop op.length).length ≤ f2 := by simp only [needs] at hn1 ⊢; omega
        by_cases o1 : op = [124, 124]
        · have hr_ : r = 1 := by rw [← hrr, o1]; rfl
          have z0 := h9.obj4
          have hsum := hI1.lq.sum
          have hov := hI1.over
          have hIp : InvS B ((st1.skip.at (st1.skip.left.drop op.length)).pass (decide (v = 0))) := .pass (by
            show st1.over + 1 + (st1.skip.left.drop op.length).length + st1.sets.length ≤ B
            omega) hI2.s
          have hlqp : Lq B st ((st1.skip.at (st1.skip.left.drop op.length)).pass (decide (v = 0))) := hlq2.same rfl rfl
          rw [if_pos hr_] at hei
          have p1 : (op = ([124, 124] : Str)) = True := eq_true o1
          (try simp (maxSteps := 1000000) (dsimp := false) (disch := (first | omega | (simp only [okR]; done) | (simp only [sizeR] <;> omega) | fail)) only [↓preR, postR, ↓w_stop, Nat.reduceEqDiff, Nat.reduceAdd, Nat.reduceSub, Nat.reduceMul, Int.reduceNeg, Nat.reduceLT, Int.reduceToNat, Nat.reduceLeDiff, Nat.sub_zero, p1, z0])
          refine pass_c (is := decide (v = 0)) (Q := fun w st3 b3 => After B (lookV vars) f2 (.rank (r + 1)) ((st1.skip.at (st1.skip.left.drop op.length)).pass (decide (v = 0))) false w st3 b3) (by show st1.over ≤ _; omega) h9 (fun σ1 q k1 g1 hk1 => rank1_c (by omega) (ih f2 (by omega)) (j1 := 2) (j2 := 1) (i := i + 3) rfl rfl hg hn2 hIp g1 hk1) (fun v st' b' a => a.over) fun w st3 b3 u3 s9 a3 g9 => ?_
          have a4 := a3.ok rfl
          have hdl' : st3.left.length ≤ (st1.skip.left.drop op.length).length := a3.lq.left
          have next : again [.int .i64 (truthI (decide (¬ v = 0) || decide (¬ w = 0)))] s9 := by
            refine hag _ _ _ ⟨_, st3.un st1.over, b3, u3, rfl, ⟨truth_in _, hI1.over, (hlqp.trans a3.lq).same rfl rfl, fun h => (by rw [hb] at h; cases h), fun hb3 _ => ?_, fun hb3 => ?_⟩, g9, rfl⟩ (by show st3.left.length < _; omega)
            · rw [he1, hei]
              cases hq : ev (lookV vars) f2 (.rank (r + 1)) ((st1.skip.at (st1.skip.left.drop op.length)).pass (decide (v = 0))) with
              | none => rfl
              | some q =>
                rw [hq] at a4
                obtain ⟨n, s5⟩ := q
                have := a4.2.2
                rw [hb3] at this; cases this
            · refine ⟨f2, by omega, by show needs _ st3.left.length ≤ _; simp only [needs] at hn1 ⊢; omega, ?_⟩
              rw [he1, hei]
              cases hq : ev (lookV vars) f2 (.rank (r + 1)) ((st1.skip.at (st1.skip.left.drop op.length)).pass (decide (v = 0))) with
              | none => rw [hq] at a4; have a4 : b3 = true := a4; rw [hb3] at a4; cases a4
              | some q =>
                rw [hq] at a4
                obtain ⟨n, s5⟩ := q
                obtain ⟨rfl, rfl, _⟩ := a4
                simp only [if_pos hr_]
          by_cases hv0 : v = 0
          · simp only [hv0, not_true, decide_false, Bool.false_or, Bool.false_and] at next
            (try simp (maxSteps := 1000000) (dsimp := false) (disch := (first | omega | (simp only [okR]; done) | (simp only [sizeR] <;> omega) | fail)) only [↓preR, postR, ↓w_stop, Nat.reduceEqDiff, Nat.reduceAdd, Nat.reduceSub, Nat.reduceMul, Int.reduceNeg, Nat.reduceLT, Int.reduceToNat, Nat.reduceLeDiff, Nat.sub_zero, hv0])
            refine yes_c ?_
            (try simp (maxSteps := 1000000) (dsimp := false) (disch := (first | omega | (simp only [okR]; done) | (simp only [sizeR] <;> omega) | fail)) only [↓preR, postR, ↓w_stop, Nat.reduceEqDiff, Nat.reduceAdd, Nat.reduceSub, Nat.reduceMul, Int.reduceNeg, Nat.reduceLT, Int.reduceToNat, Nat.reduceLeDiff, Nat.sub_zero])
            first
              | exact next
              | (rw [show (!decide (w = 0)) = decide (¬ w = 0) from (by simp)]; exact next)
          · simp only [hv0, not_false_eq_true, decide_true, Bool.true_or, Bool.true_and] at next
            (try simp (maxSteps := 1000000) (dsimp := false) (disch := (first | omega | (simp only [okR]; done) | (simp only [sizeR] <;> omega) | fail)) only [↓preR, postR, ↓w_stop, Nat.reduceEqDiff, Nat.reduceAdd, Nat.reduceSub, Nat.reduceMul, Int.reduceNeg, Nat.reduceLT, Int.reduceToNat, Nat.reduceLeDiff, Nat.sub_zero, hv0])
            refine yes_c ?_
            (try simp (maxSteps := 1000000) (dsimp := false) (disch := (first | omega | (simp only [okR]; done) | (simp only [sizeR] <;> omega) | fail)) only [↓preR, postR, ↓w_stop, Nat.reduceEqDiff, Nat.reduceAdd, Nat.reduceSub, Nat.reduceMul, Int.reduceNeg, Nat.reduceLT, Int.reduceToNat, Nat.reduceLeDiff, Nat.sub_zero])
            first
              | exact next
              | (rw [show (!decide (w = 0)) = decide (¬ w = 0) from (by simp)]; exact next)
        by_cases o2 : op = [38, 38]
        · have hr_ : r = 2 := by rw [← hrr, o2]; rfl
          have z0 := h9.obj4
          have hsum := hI1.lq.sum
          have hov := hI1.over
          have hIp : InvS B ((st1.skip.at (st1.skip.left.drop op.length)).pass (decide (¬ v = 0))) := .pass (by
            show st1.over + 1 + (st1.skip.left.drop op.length).length + st1.sets.length ≤ B
            omega) hI2.s
          have hlqp : Lq B st ((st1.skip.at (st1.skip.left.drop op.length)).pass (decide (¬ v = 0))) := hlq2.same rfl rfl
          rw [if_neg (show ¬ r = 1 by omega), if_pos hr_] at hei
          have p2 : (op = ([38, 38] : Str)) = True := eq_true o2
          (try simp (maxSteps := 1000000) (dsimp := false) (disch := (first | omega | (simp only [okR]; done) | (simp only [sizeR] <;> omega) | fail)) only [↓preR, postR, ↓w_stop, Nat.reduceEqDiff, Nat.reduceAdd, Nat.reduceSub, Nat.reduceMul, Int.reduceNeg, Nat.reduceLT, Int.reduceToNat, Nat.reduceLeDiff, Nat.sub_zero, o1, p2, z0])
          try rw [show (!decide (v = 0)) = decide (¬ v = 0) from (by simp)]
          refine pass_c (is := decide (¬ v = 0)) (Q := fun w st3 b3 => After B (lookV vars) f2 (.rank (r + 1)) ((st1.skip.at (st1.skip.left.drop op.length)).pass (decide (¬ v = 0))) false w st3 b3) (by show st1.over ≤ _; omega) h9 (fun σ1 q k1 g1 hk1 => rank1_c (by omega) (ih f2 (by omega)) (j1 := 2) (j2 := 1) (i := i + 3) rfl rfl hg hn2 hIp g1 hk1) (fun v st' b' a => a.over) fun w st3 b3 u3 s9 a3 g9 => ?_
          have a4 := a3.ok rfl
          have hdl' : st3.left.length ≤ (st1.skip.left.drop op.length).length := a3.lq.left
          have next : again [.int .i64 (truthI (decide (¬ v = 0) && decide (¬ w = 0)))] s9 := by
            refine hag _ _ _ ⟨_, st3.un st1.over, b3, u3, rfl, ⟨truth_in _, hI1.over, (hlqp.trans a3.lq).same rfl rfl, fun h => (by rw [hb] at h; cases h), fun hb3 _ => ?_, fun hb3 => ?_⟩, g9, rfl⟩ (by show st3.left.length < _; omega)
            · rw [he1, hei]
              cases hq : ev (lookV vars) f2 (.rank (r + 1)) ((st1.skip.at (st1.skip.left.drop op.length)).pass (decide (¬ v = 0))) with
              | none => rfl
              | some q =>
                rw [hq] at a4
                obtain ⟨n, s5⟩ := q
                have := a4.2.2
                rw [hb3] at this; cases this
            · refine ⟨f2, by omega, by show needs _ st3.left.length ≤ _; simp only [needs] at hn1 ⊢; omega, ?_⟩
              rw [he1, hei]
              cases hq : ev (lookV vars) f2 (.rank (r + 1)) ((st1.skip.at (st1.skip.left.drop op.length)).pass (decide (¬ v = 0))) with
              | none => rw [hq] at a4; have a4 : b3 = true := a4; rw [hb3] at a4; cases a4
              | some q =>
                rw [hq] at a4
                obtain ⟨n, s5⟩ := q
                obtain ⟨rfl, rfl, _⟩ := a4
                simp only [if_neg (show ¬ r = 1 by omega), if_pos hr_]
          by_cases hv0 : v = 0
          · simp only [hv0, not_true, decide_false, Bool.false_or, Bool.false_and] at next
            (try simp (maxSteps := 1000000) (dsimp := false) (disch := (first | omega | (simp only [okR]; done) | (simp only [sizeR] <;> omega) | fail)) only [↓preR, postR, ↓w_stop, Nat.reduceEqDiff, Nat.reduceAdd, Nat.reduceSub, Nat.reduceMul, Int.reduceNeg, Nat.reduceLT, Int.reduceToNat, Nat.reduceLeDiff, Nat.sub_zero, hv0])
            refine yes_c ?_
            (try simp (maxSteps := 1000000) (dsimp := false) (disch := (first | omega | (simp only [okR]; done) | (simp only [sizeR] <;> omega) | fail)) only [↓preR, postR, ↓w_stop, Nat.reduceEqDiff, Nat.reduceAdd, Nat.reduceSub, Nat.reduceMul, Int.reduceNeg, Nat.reduceLT, Int.reduceToNat, Nat.reduceLeDiff, Nat.sub_zero])
            first
              | exact next
              | (rw [show (!decide (w = 0)) = decide (¬ w = 0) from (by simp)]; exact next)
          · simp only [hv0, not_false_eq_true, decide_true, Bool.true_or, Bool.true_and] at next
            (try simp (maxSteps := 1000000) (dsimp := false) (disch := (first | omega | (simp only [okR]; done) | (simp only [sizeR] <;> omega) | fail)) only [↓preR, postR, ↓w_stop, Nat.reduceEqDiff, Nat.reduceAdd, Nat.reduceSub, Nat.reduceMul, Int.reduceNeg, Nat.reduceLT, Int.reduceToNat, Nat.reduceLeDiff, Nat.sub_zero, hv0])
            refine yes_c ?_
            (try simp (maxSteps := 1000000) (dsimp := false) (disch := (first | omega | (simp only [okR]; done) | (simp only [sizeR] <;> omega) | fail)) only [↓preR, postR, ↓w_stop, Nat.reduceEqDiff, Nat.reduceAdd, Nat.reduceSub, Nat.reduceMul, Int.reduceNeg, Nat.reduceLT, Int.reduceToNat, Nat.reduceLeDiff, Nat.sub_zero])
            first
              | exact next
              | (rw [show (!decide (w = 0)) = decide (¬ w = 0) from (by simp)]; exact next)
        have r1 : ¬ r = 1 := fun e => o1 (rank_one (by omega))
        have r2 : ¬ r = 2 := fun e => o2 (rank_two (by omega))
        rw [if_neg r1, if_neg r2] at hei
        have ep : (st1.skip.at (st1.skip.left.drop op.length)).pass true = st1.skip.at (st1.skip.left.drop op.length) := rfl
        rw [ep] at hei
        (try simp (maxSteps := 1000000) (dsimp := false) (disch := (first | omega | (simp only [okR]; done) | (simp only [sizeR] <;> omega) | fail)) only [↓preR, postR, ↓w_stop, Nat.reduceEqDiff, Nat.reduceAdd, Nat.reduceSub, Nat.reduceMul, Int.reduceNeg, Nat.reduceLT, Int.reduceToNat, Nat.reduceLeDiff, Nat.sub_zero, o1, o2])
        refine rank1_c (by omega) (ih f2 (by omega)) (j1 := 1) (j2 := 0) (i := i + 2) rfl rfl hg hn2 hI2 h9 fun w st3 b3 u3 s9 a3 g9 => ?_
        have z1 := g9.obj4
        (try simp (maxSteps := 1000000) (dsimp := false) (disch := (first | omega | (simp only [okR]; done) | (simp only [sizeR] <;> omega) | fail)) only [↓preR, postR, ↓w_stop, Nat.reduceEqDiff, Nat.reduceAdd, Nat.reduceSub, Nat.reduceMul, Int.reduceNeg, Nat.reduceLT, Int.reduceToNat, Nat.reduceLeDiff, Nat.sub_zero, z1])
        refine does_c hO h0 (by omega) (by omega) hI1.num a3.num g9 fun s10 g10 => ?_
        have ho3 : st3.over = st1.over := a3.over
        have eun : st3.un st1.over = st3 := by rw [← ho3]; rfl
        have hdl := a3.lq.left
        have hdl' : st3.left.length ≤ (st1.skip.left.drop op.length).length := hdl
        have dk : (doesB op v w st3 b3).2.over = st3.over ∧ (doesB op v w st3 b3).2.left = st3.left ∧ (doesB op v w st3 b3).2.sets = st3.sets ∧ inI64 (doesB op v w st3 b3).1 := by
          unfold doesB
          split
          · exact ⟨rfl, rfl, rfl, by unfold inI64; omega⟩
          · exact does_ok op st3 hI1.num a3.num
        have a4 := a3.ok rfl
        (try simp (maxSteps := 1000000) (dsimp := false) (disch := (first | omega | (simp only [okR]; done) | (simp only [sizeR] <;> omega) | fail)) only [↓preR, postR, ↓w_stop, Nat.reduceEqDiff, Nat.reduceAdd, Nat.reduceSub, Nat.reduceMul, Int.reduceNeg, Nat.reduceLT, Int.reduceToNat, Nat.reduceLeDiff, Nat.sub_zero])
        refine hag _ _ _ ⟨_, _, b3, u3, rfl, ⟨dk.2.2.2, by rw [dk.1, ho3, hI1.over], (hlq2.trans a3.lq).same dk.2.1 dk.2.2.1, fun h => (by rw [hb] at h; cases h), fun hb3 _ => ?_, fun hb3 => ?_⟩, g10, rfl⟩ (by rw [dk.2.1]; omega)
        · rw [he1, hei]
          cases hq : ev (lookV vars) f2 (.rank (r + 1)) (st1.skip.at (st1.skip.left.drop op.length)) with
          | none => rfl
          | some q =>
            rw [hq] at a4
            obtain ⟨n, s5⟩ := q
            have := a4.2.2
            rw [hb3] at this; cases this
        · refine ⟨f2, by omega, by rw [dk.2.1]; simp only [needs] at hn1 ⊢; omega, ?_⟩
          rw [he1, hei]
          cases hq : ev (lookV vars) f2 (.rank (r + 1)) (st1.skip.at (st1.skip.left.drop op.length)) with
          | none => rw [hq] at a4; have a4 : b3 = true := a4; rw [hb3] at a4; cases a4
          | some q =>
            rw [hq] at a4
            obtain ⟨n, s5⟩ := q
            obtain ⟨rfl, rfl, _⟩ := a4
            simp only [if_neg r1, if_neg r2]
            rw [eun, hb3]
            rfl
end
end Go.Proofs.YtkbpbagjbjkpmaaGreatDoor

/- The worker at an expression: a choice. Conditions: as each theorem says. -/
namespace Go.Proofs.YtkbpbagjbjkpmaaGreatDoor
open E Go.Lib
open Rp
set_option linter.unusedVariables false
set_option linter.unusedSimpArgs false
set_option maxHeartbeats 1000000
set_option maxRecDepth 20000

theorem ev_choice_none {look : Str → Int × Int} {f : Nat} {st : ASt} (h : ev look f (.rank 1) st = none) : ev look (f + 1) .choice st = none := by
  unfold ev
  rw [h]
theorem ev_choice_out {look : Str → Int × Int} {f : Nat} {st s1 : ASt} {c : Int} (h : ev look f (.rank 1) st = some (c, s1)) (hn : ∀ t, ¬ skipB s1.left = 63 :: t) : ev look (f + 1) .choice st = some (c, s1.skip) := by
  unfold ev
  rw [h]
  simp only
  all_goals first
    | done
    | (split
       · rename_i t ht; exact absurd ht (hn t)
       · rfl)
theorem ev_choice_in {look : Str → Int × Int} {f : Nat} {st s1 : ASt} {c : Int} {t : Str} (h : ev look f (.rank 1) st = some (c, s1)) (ht : skipB s1.left = 63 :: t) : ev look (f + 1) .choice st =
    match ev look f .set ((s1.at t).pass (decide (¬ c = 0))) with
    | none => none
    | some (a, s2) => match skipB s2.left with
      | 58 :: t2 => (match ev look f .choice (((s2.un s1.over).at t2).pass (decide (c = 0))) with
        | none => none
        | some (b, s3) => some (if c = 0 then b else a, s3.un s1.over))
      | _ => none := by
  conv => lhs; unfold ev
  rw [h]
  simp only [ht]
  generalize ev look f .set _ = e
  cases e with
  | none => rfl
  | some q => rfl
section
variable {X : Ce} {p m : Nat} {ops : List (Str × Value)} {vv : Value} {B : Nat} {look : Str → Int × Int} {g : Nat} {o : Go.Obj} {σ : AS} {k : Value → AS → Prop} {vars : List (Str × Str)}
theorem choice_c {f : Nat} (hB : B ≤ 1000000) (hO : OpsOk X ops) (hE : ErrI X) (hV : VarsI X vv vars) (hL : LookI (lookV vars)) (ih : ∀ f0, f0 ≤ f → AllC X p m ops vv B (lookV vars) g o f0) : FnC X p m ops vv B (lookV vars) g o 56 [] .choice (f + 1) := by
  intro σ R k st b u i hf hI hg h hk
  refine f56 ?_
  have hlB := hI.n
  (try simp (maxSteps := 1000000) (dsimp := false) (disch := (first | omega | (simp only [okR]; done) | (simp only [sizeR] <;> omega) | fail)) only [↓preR, postR, ↓w_stop, Nat.reduceEqDiff, Nat.reduceAdd, Nat.reduceSub, Nat.reduceMul, Int.reduceNeg, Nat.reduceLT, Int.reduceToNat, Nat.reduceLeDiff, Nat.sub_zero, F56])
  refine (ih f (Nat.le_refl _)).2.2.1 1 (by omega) (by omega) _ _ _ st b u i (by simp only [needs] at hf ⊢; omega) hI hg h fun v s1 b1 u1 s3 a h3 => ?_
  have hl1 := a.lq.left
  (try simp (maxSteps := 1000000) (dsimp := false) (disch := (first | omega | (simp only [okR]; done) | (simp only [sizeR] <;> omega) | fail)) only [↓preR, postR, ↓w_stop, Nat.reduceEqDiff, Nat.reduceAdd, Nat.reduceSub, Nat.reduceMul, Int.reduceNeg, Nat.reduceLT, Int.reduceToNat, Nat.reduceLeDiff, Nat.sub_zero])
  refine join_by fun J1 hJ1 => ?_
  (try simp (maxSteps := 1000000) (dsimp := false) (disch := (first | omega | (simp only [okR]; done) | (simp only [sizeR] <;> omega) | fail)) only [↓preR, postR, ↓w_stop, Nat.reduceEqDiff, Nat.reduceAdd, Nat.reduceSub, Nat.reduceMul, Int.reduceNeg, Nat.reduceLT, Int.reduceToNat, Nat.reduceLeDiff, Nat.sub_zero])
  refine next_c hO (by omega) h3 fun s4 h4 => ?_
  have gone : b1 = true → b = false → ev (lookV vars) (f + 1) .choice st = none := by
    intro hb1 hb
    have h5 := a.ok hb
    cases he : ev (lookV vars) f (.rank 1) st with
    | none => exact ev_choice_none he
    | some q =>
      rw [he] at h5
      obtain ⟨n, s5⟩ := q
      have := h5.2.2
      rw [hb1] at this; cases this
  by_cases h63 : nextP s1.skip.left = [63]
  · cases b1 with
    | true =>
      (try simp (maxSteps := 1000000) (dsimp := false) (disch := (first | omega | (simp only [okR]; done) | (simp only [sizeR] <;> omega) | fail)) only [↓preR, postR, ↓w_stop, Nat.reduceEqDiff, Nat.reduceAdd, Nat.reduceSub, Nat.reduceMul, Int.reduceNeg, Nat.reduceLT, Int.reduceToNat, Nat.reduceLeDiff, Nat.sub_zero, h63, h4.obj])
      refine hk v s1.skip true u1 s4 ⟨a.num, a.over, a.lq.skip, fun _ => rfl, fun hb => ?_⟩ h4
      rw [gone rfl hb]
    | false =>
      obtain ⟨t, ht⟩ := (next_one (.inr (.inl rfl)) _).1 h63
      have o4 : s4.m p = some (.cells [.string (bs (63 :: t)), .map (some m), vv, u1, .int .i64 s1.skip.over, .bool false, .int .i64 s1.skip.fell]) := by rw [← ht]; exact h4.obj
      have et : List.take (t.length + 1 - 1) t = t := List.take_of_length_le (by omega)
      have ht' : skipB s1.left = 63 :: t := ht
      have htl := cons_skip ht'
      have h5 : Hs (s4.put p (.cells [.string (bs t), .map (some m), vv, u1, .int .i64 s1.skip.over, .bool false, .int .i64 s1.skip.fell])) X (WkR p m ops vv u1 (s1.skip.at t) false R) := h4.put
      (try simp (maxSteps := 1000000) (dsimp := false) (disch := (first | omega | (simp only [okR]; done) | (simp only [sizeR] <;> omega) | fail)) only [↓preR, postR, ↓w_stop, Nat.reduceEqDiff, Nat.reduceAdd, Nat.reduceSub, Nat.reduceMul, Int.reduceNeg, Nat.reduceLT, Int.reduceToNat, Nat.reduceLeDiff, Nat.sub_zero, h63, o4])
      refine hJ1 _ _ ?_
      clear hJ1
      (try simp (maxSteps := 1000000) (dsimp := false) (disch := (first | omega | (simp only [okR]; done) | (simp only [sizeR] <;> omega) | fail)) only [↓preR, postR, ↓w_stop, Nat.reduceEqDiff, Nat.reduceAdd, Nat.reduceSub, Nat.reduceMul, Int.reduceNeg, Nat.reduceLT, Int.reduceToNat, Nat.reduceLeDiff, Nat.sub_zero, o4, et])
      generalize AS.put _ _ _ = s5 at h5 ⊢
      try rw [show (!decide (v = 0)) = decide (¬ v = 0) from (by simp)]
      have hsum := a.lq.sum
      have hov := a.over
      have lq1 : Lq B st (s1.skip.at t) := a.lq.skip.at (by rw [ht]; simp)
      have hIp : InvS B ((s1.skip.at t).pass (decide (¬ v = 0))) := .pass (by
        show s1.over + 1 + t.length + s1.sets.length ≤ B
        omega) a.lq.s
      have lqp : Lq B st ((s1.skip.at t).pass (decide (¬ v = 0))) := lq1.same rfl rfl
      refine pass_c (is := decide (¬ v = 0)) (Q := fun w st3 b3 => After B (lookV vars) f .set ((s1.skip.at t).pass (decide (¬ v = 0))) false w st3 b3) (by show s1.over ≤ _; omega) h5 (fun σ1 q k1 g1 hk1 => callv_by (a := [pvw p]) (b := []) (by kernel_rfl) ((ih f (Nat.le_refl _)).1 _ _ _ ((s1.skip.at t).pass (decide (¬ v = 0))) false u1 (i + 1) (by show needs _ t.length ≤ f; simp only [needs] at hf ⊢; omega) hIp hg g1 hk1)) (fun v st' b' a => a.over) fun w s6 b6 u6 s7 a6 h6 => ?_
      have ea : b = false → ev (lookV vars) f (.rank 1) st = some (v, s1) := by
        intro hb
        have h7 := a.ok hb
        cases he : ev (lookV vars) f (.rank 1) st with
        | none => rw [he] at h7; have h7 : false = true := h7; cases h7
        | some q =>
          rw [he] at h7
          obtain ⟨n, s5'⟩ := q
          obtain ⟨rfl, rfl, _⟩ := h7
          rfl
      have hb : b = false := by
        cases b with
        | false => rfl
        | true => have := a.bad rfl; cases this
      have he := ev_choice_in (ea hb) ht'
      have hl6 := a6.lq.left
      have hl6' : s6.left.length ≤ t.length := hl6
      have a6ok := a6.ok rfl
      have lq6 : Lq B st (s6.un s1.over) := (lqp.trans a6.lq).same rfl rfl
      (try simp (maxSteps := 1000000) (dsimp := false) (disch := (first | omega | (simp only [okR]; done) | (simp only [sizeR] <;> omega) | fail)) only [↓preR, postR, ↓w_stop, Nat.reduceEqDiff, Nat.reduceAdd, Nat.reduceSub, Nat.reduceMul, Int.reduceNeg, Nat.reduceLT, Int.reduceToNat, Nat.reduceLeDiff, Nat.sub_zero])
      refine next_c hO (by show s6.left.length ≤ _; omega) h6 fun s8 h8 => ?_
      by_cases h58 : nextP (s6.un s1.over).skip.left = [58]
      · obtain ⟨t2, ht2⟩ := (next_one (.inr (.inr rfl)) _).1 h58
        have h58' : nextP ((s6.un (s1.skip.at t).over).skip).left = [58] := h58
        have ht2' : skipB s6.left = 58 :: t2 := ht2
        have ht2l := cons_skip ht2'
        have o8 : s8.m p = some (.cells [.string (bs (58 :: t2)), .map (some m), vv, u6, .int .i64 (s6.un s1.over).skip.over, .bool b6, .int .i64 s6.fell]) := by rw [← ht2]; exact h8.obj
        have et2 : List.take (t2.length + 1 - 1) t2 = t2 := List.take_of_length_le (by omega)
        have h9 : Hs (s8.put p (.cells [.string (bs t2), .map (some m), vv, u6, .int .i64 (s6.un s1.over).skip.over, .bool b6, .int .i64 s6.fell])) X (WkR p m ops vv u6 ((s6.un s1.over).skip.at t2) b6 R) := h8.put
        (try simp (maxSteps := 1000000) (dsimp := false) (disch := (first | omega | (simp only [okR]; done) | (simp only [sizeR] <;> omega) | fail)) only [↓preR, postR, ↓w_stop, Nat.reduceEqDiff, Nat.reduceAdd, Nat.reduceSub, Nat.reduceMul, Int.reduceNeg, Nat.reduceLT, Int.reduceToNat, Nat.reduceLeDiff, Nat.sub_zero, h58', o8, et2])
        generalize AS.put _ _ _ = s9 at h9 ⊢
        have hs6 := a6.lq.sum
        have hs6' : s6.left.length + s6.sets.length ≤ t.length + s1.sets.length := hs6
        have hIq : InvS B (((s6.un s1.over).skip.at t2).pass (decide (v = 0))) := .pass (by
          show s1.over + 1 + t2.length + s6.sets.length ≤ B
          omega) a6.lq.s
        have lqq : Lq B st (((s6.un s1.over).skip.at t2).pass (decide (v = 0))) := (lq6.skip.at (l := t2) (by rw [ht2]; simp)).same rfl rfl
        refine pass_c (is := decide (v = 0)) (Q := fun x s10 b10 => After B (lookV vars) f .choice (((s6.un s1.over).skip.at t2).pass (decide (v = 0))) b6 x s10 b10) (by show s1.over ≤ _; omega) h9 (fun σ1 q k1 g1 hk1 => callv_by (a := [pvw p]) (b := []) (by kernel_rfl) ((ih f (Nat.le_refl _)).2.1 _ _ _ (((s6.un s1.over).skip.at t2).pass (decide (v = 0))) b6 u6 (i + 1) (by show needs _ t2.length ≤ f; simp only [needs] at hf ⊢; omega) hIq hg g1 hk1)) (fun v st' b' a => a.over) fun x s10 b10 u10 s11 a10 h10 => ?_
        have aft : ∀ y : Int, y = (if v = 0 then x else w) → After B (lookV vars) (f + 1) .choice st b y (s10.un s1.over) b10 := by
          intro y hy
          refine ⟨by rw [hy]; split; exact a10.num; exact a6.num, a.over, (lqq.trans a10.lq).same rfl rfl, fun h => absurd h (by rw [hb]; decide), fun _ => ?_⟩
          rw [he]
          cases hq : ev (lookV vars) f .set ((s1.skip.at t).pass (decide (¬ v = 0))) with
          | none =>
            have hq' : ev (lookV vars) f .set ((s1.at t).pass (decide (¬ v = 0))) = none := hq
            rw [hq] at a6ok
            rw [hq']
            exact a10.bad a6ok
          | some q =>
            rw [hq] at a6ok
            obtain ⟨n, s5'⟩ := q
            obtain ⟨rfl, rfl, rfl⟩ := a6ok
            have hq' : ev (lookV vars) f .set ((s1.at t).pass (decide (¬ v = 0))) = some (w, s6) := hq
            rw [hq']
            simp only [ht2']
            have a10ok := a10.ok rfl
            cases hr : ev (lookV vars) f .choice (((s6.un s1.over).skip.at t2).pass (decide (v = 0))) with
            | none =>
              have hr' : ev (lookV vars) f .choice (((s6.un s1.over).at t2).pass (decide (v = 0))) = none := hr
              rw [hr] at a10ok
              simp only [hr']
              exact a10ok
            | some q =>
              rw [hr] at a10ok
              obtain ⟨n, s5'⟩ := q
              obtain ⟨rfl, rfl, h10b⟩ := a10ok
              have hr' : ev (lookV vars) f .choice (((s6.un s1.over).at t2).pass (decide (v = 0))) = some (x, s10) := hr
              simp only [hr']
              exact ⟨hy, trivial, h10b⟩
        by_cases hv0 : v = 0
        · (try simp (maxSteps := 1000000) (dsimp := false) (disch := (first | omega | (simp only [okR]; done) | (simp only [sizeR] <;> omega) | fail)) only [↓preR, postR, ↓w_stop, Nat.reduceEqDiff, Nat.reduceAdd, Nat.reduceSub, Nat.reduceMul, Int.reduceNeg, Nat.reduceLT, Int.reduceToNat, Nat.reduceLeDiff, Nat.sub_zero])
          refine join_now ?_
          (try simp (maxSteps := 1000000) (dsimp := false) (disch := (first | omega | (simp only [okR]; done) | (simp only [sizeR] <;> omega) | fail)) only [↓preR, postR, ↓w_stop, Nat.reduceEqDiff, Nat.reduceAdd, Nat.reduceSub, Nat.reduceMul, Int.reduceNeg, Nat.reduceLT, Int.reduceToNat, Nat.reduceLeDiff, Nat.sub_zero, hv0])
          exact hk _ _ _ _ _ (aft x (by rw [if_pos hv0])) h10
        · (try simp (maxSteps := 1000000) (dsimp := false) (disch := (first | omega | (simp only [okR]; done) | (simp only [sizeR] <;> omega) | fail)) only [↓preR, postR, ↓w_stop, Nat.reduceEqDiff, Nat.reduceAdd, Nat.reduceSub, Nat.reduceMul, Int.reduceNeg, Nat.reduceLT, Int.reduceToNat, Nat.reduceLeDiff, Nat.sub_zero])
          refine join_now ?_
          (try simp (maxSteps := 1000000) (dsimp := false) (disch := (first | omega | (simp only [okR]; done) | (simp only [sizeR] <;> omega) | fail)) only [↓preR, postR, ↓w_stop, Nat.reduceEqDiff, Nat.reduceAdd, Nat.reduceSub, Nat.reduceMul, Int.reduceNeg, Nat.reduceLT, Int.reduceToNat, Nat.reduceLeDiff, Nat.sub_zero, hv0])
          exact hk _ _ _ _ _ (aft w (by rw [if_neg hv0])) h10
      · have h9 := h8.put (cs' := wkC (s6.un s1.over).skip true m vv u6)
        have h58' : ¬ nextP ((s6.un (s1.skip.at t).over).skip).left = [58] := h58
        (try simp (maxSteps := 1000000) (dsimp := false) (disch := (first | omega | (simp only [okR]; done) | (simp only [sizeR] <;> omega) | fail)) only [↓preR, postR, ↓w_stop, Nat.reduceEqDiff, Nat.reduceAdd, Nat.reduceSub, Nat.reduceMul, Int.reduceNeg, Nat.reduceLT, Int.reduceToNat, Nat.reduceLeDiff, Nat.sub_zero, h58', h8.obj])
        refine hk 0 (s6.un s1.over).skip true u6 _ ⟨by unfold inI64; omega, a.over, lq6.skip, fun h => absurd h (by rw [hb]; decide), fun _ => ?_⟩ h9
        rw [he]
        have hno : ∀ t2, ¬ skipB s6.left = 58 :: t2 := fun t2 h => h58 ((next_one (.inr (.inr rfl)) _).2 ⟨t2, h⟩)
        cases hq : ev (lookV vars) f .set ((s1.skip.at t).pass (decide (¬ v = 0))) with
        | none =>
          have hq' : ev (lookV vars) f .set ((s1.at t).pass (decide (¬ v = 0))) = none := hq
          rw [hq']
        | some q =>
          rw [hq] at a6ok
          obtain ⟨n, s5'⟩ := q
          obtain ⟨rfl, rfl, _⟩ := a6ok
          have hq' : ev (lookV vars) f .set ((s1.at t).pass (decide (¬ v = 0))) = some (w, s6) := hq
          rw [hq']
          simp only
          all_goals first
            | done
            | (split
               · rename_i t2 h; exact absurd h (hno t2)
               · rfl)
  · have hno : ∀ t, ¬ skipB s1.left = 63 :: t := fun t ht => h63 ((next_one (.inr (.inl rfl)) _).2 ⟨t, ht⟩)
    (try simp (maxSteps := 1000000) (dsimp := false) (disch := (first | omega | (simp only [okR]; done) | (simp only [sizeR] <;> omega) | fail)) only [↓preR, postR, ↓w_stop, Nat.reduceEqDiff, Nat.reduceAdd, Nat.reduceSub, Nat.reduceMul, Int.reduceNeg, Nat.reduceLT, Int.reduceToNat, Nat.reduceLeDiff, Nat.sub_zero, h63, h4.obj])
    refine hk v s1.skip b1 u1 s4 ⟨a.num, a.over, a.lq.skip, a.bad, fun hb => ?_⟩ h4
    have h5 := a.ok hb
    cases he : ev (lookV vars) f (.rank 1) st with
    | none => rw [he] at h5; rw [ev_choice_none he]; exact h5
    | some q =>
      rw [he] at h5
      obtain ⟨n, s5⟩ := q
      obtain ⟨rfl, rfl, rfl⟩ := h5
      rw [ev_choice_out he hno]
      exact ⟨rfl, rfl, rfl⟩
end
end Go.Proofs.YtkbpbagjbjkpmaaGreatDoor
