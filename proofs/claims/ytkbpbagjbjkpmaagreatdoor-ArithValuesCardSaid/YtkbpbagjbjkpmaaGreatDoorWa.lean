/- The worker at an expression: what is left is gone through, operators met. Conditions: as each theorem says. -/
import Derived.Test.YtkbpbagjbjkpmaaGreatDoorNv
import Derived.Test.YtkbpbagjbjkpmaaGreatDoorMp
import Derived.Test.YtkbpbagjbjkpmaaGreatDoorG1
import Derived.Lib.ItoaNum
import Derived.Test.YtkbpbagjbjkpmaaGreatDoorArA
import Derived.Test.YtkbpbagjbjkpmaaGreatDoorOe
import Derived.Test.YtkbpbagjbjkpmaaGreatDoorOc
namespace Go.Proofs.YtkbpbagjbjkpmaaGreatDoor
open E Go.Lib
set_option linter.unusedVariables false
set_option linter.unusedSimpArgs false
set_option maxHeartbeats 1000000
set_option maxRecDepth 20000

abbrev pvw (q : Nat) : Value := .pointer (some ⟨q, 0, none⟩)
abbrev wkC (st : ASt) (b : Bool) (m : Nat) (vv u : Value) : List Value := [.string (bs st.left), .map (some m), vv, u, .int .i64 st.over, .bool b, .int .i64 st.fell]
abbrev setsT (st : ASt) : List (Str × Str) := st.sets.map fun q => (q.1, itoa q.2)
/-- The worker: its cells, what it sets, its operators. -/
abbrev WkR (p m : Nat) (ops : List (Str × Value)) (vv u : Value) (st : ASt) (b : Bool) (R : List Ck) : List Ck := Cel p (wkC st b m vv u) :: E.Own (α := Str × Str) u (setsT st) :: Mp (κ := Str) m none ops :: R
/-- A closure that is called with two numbers. -/
def FnOk (X : Ce) (op : Str) (fv : Value) : Prop := ∀ (σ : AS) (R : List Ck) (a b : Int) (k : Value → AS → Prop), inI64 a → inI64 b → Hs σ X R → (∀ σ', Hs σ' X R → k (.tuple #[.int .i64 (doP op a b).1, .int .i64 (doP op a b).2]) σ') → kCallv Tryz.prog fv [.int .i64 a, .int .i64 b] σ k
abbrev lkO (ops : List (Str × Value)) (op : Str) : Option Value := @List.lookup Str Value instBEqOfDecidableEq op ops
/-- The operators: a rank each, and what it does. -/
structure OpsOk (X : Ce) (ops : List (Str × Value)) : Prop where
  yes : ∀ op, ¬ rankOf op = 0 → ∃ fv, lkO ops op = some (.agg #[.int .i64 (rankOf op), fv]) ∧ okCell fv = true ∧ (¬ rankOf op = 1 → ¬ rankOf op = 2 → FnOk X op fv)
  no : ∀ op, rankOf op = 0 → lkO ops op = none
abbrev signs5 : Str := [43, 45, 42, 47, 37]
theorem asgn_two (a b : UInt8) : asgn [a, b] = (decide (b = 61) && signs5.contains a) := by
  by_cases hb : b = 61
  · subst hb
    by_cases h1 : a = 43
    · subst h1; rfl
    by_cases h2 : a = 45
    · subst h2; rfl
    by_cases h3 : a = 42
    · subst h3; rfl
    by_cases h4 : a = 47
    · subst h4; rfl
    by_cases h5 : a = 37
    · subst h5; rfl
    have e : signs5.contains a = false := by simp [h1, h2, h3, h4, h5]
    rw [e, Bool.and_false]
    unfold asgn
    split <;> first | rfl | simp_all
  · rw [decide_eq_false hb, Bool.false_and]
    unfold asgn
    split <;> first | rfl | simp_all
theorem pos_none {c : UInt8} : ∀ {l : Str}, posB c l = none → l.contains c = false
  | [], _ => rfl
  | a :: l, h => by
    unfold posB at h
    split at h
    · cases h
    · rename_i hn
      have h2 : posB c l = none := by
        cases hp : posB c l with
        | none => rfl
        | some n => rw [hp] at h; cases h
      have := pos_none h2
      simp only [List.contains_cons, this, Bool.or_false]
      exact beq_eq_false_iff_ne.2 fun e => hn e.symm
section
variable {σ σ' : AS} {X : Ce} {R : List Ck} {k : Value → AS → Prop} {s w : Str} {p m : Nat} {ops : List (Str × Value)} {vv u : Value} {st : ASt} {b : Bool}
theorem zero_op (w : World) : (zeroValue 70).run Tryz.prog w = .ok (.agg #[.int .i64 0, .nilFunc]) w := by kernel_rfl
theorem live_c (h : Hs σ X (WkR p m ops vv u st b R)) (hk : k (.bool (st.live && !b)) σ) : kCall Tryz.prog 59 [pvw p] σ k := by
  refine f59 ?_
  unfold ASt.live at hk
  by_cases h1 : st.over = 0
  · have h1' : (st.over : Int) = 0 := by omega
    rw [decide_eq_true h1, Bool.true_and] at hk
    cases b with
    | true =>
      (simp (maxSteps := 1000000) (dsimp := false) (disch := (first | omega | (simp only [okR]; done) | (simp only [sizeR] <;> omega) | fail)) only [↓preR, postR, ↓w_join, Nat.reduceEqDiff, Nat.reduceAdd, Nat.reduceSub, Nat.reduceMul, Int.reduceNeg, Nat.reduceLT, Int.reduceToNat, Nat.reduceLeDiff, Nat.sub_zero, F59, h.obj, h1'])
      simpa using hk
    | false =>
      (simp (maxSteps := 1000000) (dsimp := false) (disch := (first | omega | (simp only [okR]; done) | (simp only [sizeR] <;> omega) | fail)) only [↓preR, postR, ↓w_join, Nat.reduceEqDiff, Nat.reduceAdd, Nat.reduceSub, Nat.reduceMul, Int.reduceNeg, Nat.reduceLT, Int.reduceToNat, Nat.reduceLeDiff, Nat.sub_zero, F59, h.obj, h1'])
      simpa using hk
  · have h1' : ¬ (st.over : Int) = 0 := by omega
    rw [decide_eq_false h1, Bool.false_and, Bool.false_and] at hk
    (simp (maxSteps := 1000000) (dsimp := false) (disch := (first | omega | (simp only [okR]; done) | (simp only [sizeR] <;> omega) | fail)) only [↓preR, postR, ↓w_join, Nat.reduceEqDiff, Nat.reduceAdd, Nat.reduceSub, Nat.reduceMul, Int.reduceNeg, Nat.reduceLT, Int.reduceToNat, Nat.reduceLeDiff, Nat.sub_zero, F59, h.obj, h1'])
    exact hk
theorem skip_c (hl : st.left.length ≤ 1000000) (h : Hs σ X (WkR p m ops vv u st b R)) (hk : ∀ w σ', Hs σ' X (WkR p m ops vv u st.skip b R) → k w σ') : kCall Tryz.prog 53 [pvw p] σ k := by
  refine f53 ?_
  (simp (maxSteps := 1000000) (dsimp := false) (disch := (first | omega | (simp only [okR]; done) | (simp only [sizeR] <;> omega) | fail)) only [↓preR, postR, ↓w_join, Nat.reduceEqDiff, Nat.reduceAdd, Nat.reduceSub, Nat.reduceMul, Int.reduceNeg, Nat.reduceLT, Int.reduceToNat, Nat.reduceLeDiff, Nat.sub_zero, F53, h.obj])
  refine tlb_c (by unfold maxLen; omega) fun j => ?_
  have h1 := h.up j
  generalize σ.up j = s1 at h1 ⊢
  have h2 := h1.put (cs' := wkC st.skip b m vv u)
  (simp (maxSteps := 1000000) (dsimp := false) (disch := (first | omega | (simp only [okR]; done) | (simp only [sizeR] <;> omega) | fail)) only [↓preR, postR, ↓w_join, Nat.reduceEqDiff, Nat.reduceAdd, Nat.reduceSub, Nat.reduceMul, Int.reduceNeg, Nat.reduceLT, Int.reduceToNat, Nat.reduceLeDiff, Nat.sub_zero, h1.obj])
  exact hk _ _ h2
theorem next_c (hO : OpsOk X ops) (hl : st.left.length ≤ 1000000) (h : Hs σ X (WkR p m ops vv u st b R)) (hk : ∀ σ', Hs σ' X (WkR p m ops vv u st.skip b R) → k (.string (bs (nextP st.skip.left))) σ') :
    kCall Tryz.prog 20 [pvw p] σ k := by
  refine f20 ?_
  (try simp (maxSteps := 1000000) (dsimp := false) (disch := (first | omega | (simp only [okR]; done) | (simp only [sizeR] <;> omega) | fail)) only [↓preR, postR, ↓w_stop, Nat.reduceEqDiff, Nat.reduceAdd, Nat.reduceSub, Nat.reduceMul, Int.reduceNeg, Nat.reduceLT, Int.reduceToNat, Nat.reduceLeDiff, Nat.sub_zero, F20])
  refine skip_c hl h fun w s1 h1 => ?_
  have hl1 : st.skip.left.length ≤ 1000000 := Nat.le_trans (skip_len _) hl
  generalize st.skip = st1 at h1 hk hl1
  match hs : st1.left with
  | [] =>
    rw [hs] at hk
    have o1 : s1.m p = some (.cells [.string (bs []), .map (some m), vv, u, .int .i64 st1.over, .bool b, .int .i64 st1.fell]) := by rw [← hs]; exact h1.obj
    (try simp (maxSteps := 1000000) (dsimp := false) (disch := (first | omega | (simp only [okR]; done) | (simp only [sizeR] <;> omega) | fail)) only [↓preR, postR, ↓w_stop, Nat.reduceEqDiff, Nat.reduceAdd, Nat.reduceSub, Nat.reduceMul, Int.reduceNeg, Nat.reduceLT, Int.reduceToNat, Nat.reduceLeDiff, Nat.sub_zero])
    refine join_now ?_
    (try simp (maxSteps := 1000000) (dsimp := false) (disch := (first | omega | (simp only [okR]; done) | (simp only [sizeR] <;> omega) | fail)) only [↓preR, postR, ↓w_stop, Nat.reduceEqDiff, Nat.reduceAdd, Nat.reduceSub, Nat.reduceMul, Int.reduceNeg, Nat.reduceLT, Int.reduceToNat, Nat.reduceLeDiff, Nat.sub_zero, o1])
    refine join_now ?_
    (try simp (maxSteps := 1000000) (dsimp := false) (disch := (first | omega | (simp only [okR]; done) | (simp only [sizeR] <;> omega) | fail)) only [↓preR, postR, ↓w_stop, Nat.reduceEqDiff, Nat.reduceAdd, Nat.reduceSub, Nat.reduceMul, Int.reduceNeg, Nat.reduceLT, Int.reduceToNat, Nat.reduceLeDiff, Nat.sub_zero, o1])
    exact hk _ h1
  | [a] =>
    rw [hs] at hk
    have o1 : s1.m p = some (.cells [.string (bs [a]), .map (some m), vv, u, .int .i64 st1.over, .bool b, .int .i64 st1.fell]) := by rw [← hs]; exact h1.obj
    have hne : ¬ ([a] : Str) = [] := by simp
    (try simp (maxSteps := 1000000) (dsimp := false) (disch := (first | omega | (simp only [okR]; done) | (simp only [sizeR] <;> omega) | fail)) only [↓preR, postR, ↓w_stop, Nat.reduceEqDiff, Nat.reduceAdd, Nat.reduceSub, Nat.reduceMul, Int.reduceNeg, Nat.reduceLT, Int.reduceToNat, Nat.reduceLeDiff, Nat.sub_zero])
    refine join_now ?_
    (try simp (maxSteps := 1000000) (dsimp := false) (disch := (first | omega | (simp only [okR]; done) | (simp only [sizeR] <;> omega) | fail)) only [↓preR, postR, ↓w_stop, Nat.reduceEqDiff, Nat.reduceAdd, Nat.reduceSub, Nat.reduceMul, Int.reduceNeg, Nat.reduceLT, Int.reduceToNat, Nat.reduceLeDiff, Nat.sub_zero, o1])
    refine join_now ?_
    (try simp (maxSteps := 1000000) (dsimp := false) (disch := (first | omega | (simp only [okR]; done) | (simp only [sizeR] <;> omega) | fail)) only [↓preR, postR, ↓w_stop, Nat.reduceEqDiff, Nat.reduceAdd, Nat.reduceSub, Nat.reduceMul, Int.reduceNeg, Nat.reduceLT, Int.reduceToNat, Nat.reduceLeDiff, Nat.sub_zero, o1, hne])
    exact hk _ h1
  | a :: c :: t =>
    rw [hs] at hk
    have o1 : s1.m p = some (.cells [.string (bs (a :: c :: t)), .map (some m), vv, u, .int .i64 st1.over, .bool b, .int .i64 st1.fell]) := by rw [← hs]; exact h1.obj
    (try simp (maxSteps := 1000000) (dsimp := false) (disch := (first | omega | (simp only [okR]; done) | (simp only [sizeR] <;> omega) | fail)) only [↓preR, postR, ↓w_stop, Nat.reduceEqDiff, Nat.reduceAdd, Nat.reduceSub, Nat.reduceMul, Int.reduceNeg, Nat.reduceLT, Int.reduceToNat, Nat.reduceLeDiff, Nat.sub_zero])
    refine join_by fun J1 hJ1 => ?_
    have one : (rankOf [a, c] = 0 ∧ ¬ asgn [a, c] = true) → ∀ s2, Hs s2 X (WkR p m ops vv u st1 b R) → J1 [] s2 := by
      intro hn s2 h2
      have o2 : s2.m p = some (.cells [.string (bs (a :: c :: t)), .map (some m), vv, u, .int .i64 st1.over, .bool b, .int .i64 st1.fell]) := by rw [← hs]; exact h2.obj
      refine hJ1 _ _ ?_
      have e : nextP (a :: c :: t) = [a] := by
        show (if rankOf [a, c] ≠ 0 ∨ asgn [a, c] = true then _ else _) = _
        rw [if_neg (fun h => h.elim (fun h => h hn.1) hn.2)]
      rw [e] at hk
      have hne : ¬ (a :: c :: t : Str) = [] := by simp
      (try simp (maxSteps := 1000000) (dsimp := false) (disch := (first | omega | (simp only [okR]; done) | (simp only [sizeR] <;> omega) | fail)) only [↓preR, postR, ↓w_stop, Nat.reduceEqDiff, Nat.reduceAdd, Nat.reduceSub, Nat.reduceMul, Int.reduceNeg, Nat.reduceLT, Int.reduceToNat, Nat.reduceLeDiff, Nat.sub_zero, o2])
      refine join_now ?_
      (try simp (maxSteps := 1000000) (dsimp := false) (disch := (first | omega | (simp only [okR]; done) | (simp only [sizeR] <;> omega) | fail)) only [↓preR, postR, ↓w_stop, Nat.reduceEqDiff, Nat.reduceAdd, Nat.reduceSub, Nat.reduceMul, Int.reduceNeg, Nat.reduceLT, Int.reduceToNat, Nat.reduceLeDiff, Nat.sub_zero, o2, hne])
      exact hk _ h2
    clear hJ1
    (try simp (maxSteps := 1000000) (dsimp := false) (disch := (first | omega | (simp only [okR]; done) | (simp only [sizeR] <;> omega) | fail)) only [↓preR, postR, ↓w_stop, Nat.reduceEqDiff, Nat.reduceAdd, Nat.reduceSub, Nat.reduceMul, Int.reduceNeg, Nat.reduceLT, Int.reduceToNat, Nat.reduceLeDiff, Nat.sub_zero, o1])
    refine lk2_by (κ := Str) (k := [a, c]) (h1.front 2 rfl) Tryz.underlying45 Tryz.underlying9 zero_op ?_
    have h2 : Hs _ X (Cel s1.n [Value.int .i64 0, Value.nilFunc] :: WkR p m ops vv u st1 b R) := (h1.new (cs := [Value.int .i64 0, Value.nilFunc]))
    by_cases hr : rankOf [a, c] = 0
    · have hno := hO.no _ hr
      unfold lkO at hno
      have h3 := h2.put (cs' := [Value.int .i64 0, Value.nilFunc])
      rw [hno]
      have ha2 := asgn_two a c
      by_cases c61 : c = 61
      · have c61' : (c.toNat : Int) = 61 := by rw [c61]; rfl
        rw [decide_eq_true c61, Bool.true_and] at ha2
        (try simp (maxSteps := 1000000) (dsimp := false) (disch := (first | omega | (simp only [okR]; done) | (simp only [sizeR] <;> omega) | fail)) only [↓preR, postR, ↓w_stop, Nat.reduceEqDiff, Nat.reduceAdd, Nat.reduceSub, Nat.reduceMul, Int.reduceNeg, Nat.reduceLT, Int.reduceToNat, Nat.reduceLeDiff, Nat.sub_zero, Option.getD_none, Option.isSome_none, Option.getD_some, c61'])
        refine idx_c (c := a) (s := signs5) rfl ?_
        by_cases ha5 : signs5.contains a = true
        · rw [ha5] at ha2
          have e : nextP (a :: c :: t) = [a, c] := by
            show (if rankOf [a, c] ≠ 0 ∨ asgn [a, c] = true then _ else _) = _
            rw [if_pos (.inr ha2)]
          rw [e] at hk
          cases hp : posB a signs5 with
          | none => exact absurd ha5 (by rw [pos_none hp]; simp)
          | some n =>
            (try simp (maxSteps := 1000000) (dsimp := false) (disch := (first | omega | (simp only [okR]; done) | (simp only [sizeR] <;> omega) | fail)) only [↓preR, postR, ↓w_stop, Nat.reduceEqDiff, Nat.reduceAdd, Nat.reduceSub, Nat.reduceMul, Int.reduceNeg, Nat.reduceLT, Int.reduceToNat, Nat.reduceLeDiff, Nat.sub_zero])
            exact hk _ h3.drop
        · have hno2 : posB a signs5 = none := pos_no fun x hx e => ha5 (by subst e; simpa using hx)
          rw [hno2]
          (try simp (maxSteps := 1000000) (dsimp := false) (disch := (first | omega | (simp only [okR]; done) | (simp only [sizeR] <;> omega) | fail)) only [↓preR, postR, ↓w_stop, Nat.reduceEqDiff, Nat.reduceAdd, Nat.reduceSub, Nat.reduceMul, Int.reduceNeg, Nat.reduceLT, Int.reduceToNat, Nat.reduceLeDiff, Nat.sub_zero])
          exact one ⟨hr, by rw [ha2]; exact ha5⟩ _ h3.drop
      · have c61' : ¬ (c.toNat : Int) = 61 := fun e => c61 (UInt8.toNat_inj.1 (by show _ = 61; omega))
        rw [decide_eq_false c61, Bool.false_and] at ha2
        (try simp (maxSteps := 1000000) (dsimp := false) (disch := (first | omega | (simp only [okR]; done) | (simp only [sizeR] <;> omega) | fail)) only [↓preR, postR, ↓w_stop, Nat.reduceEqDiff, Nat.reduceAdd, Nat.reduceSub, Nat.reduceMul, Int.reduceNeg, Nat.reduceLT, Int.reduceToNat, Nat.reduceLeDiff, Nat.sub_zero, Option.getD_none, Option.isSome_none, Option.getD_some, c61'])
        exact one ⟨hr, by rw [ha2]; simp⟩ _ h3.drop
    · obtain ⟨fv, f1, f2, _⟩ := hO.yes _ hr
      have h3 := h2.put (cs' := [Value.int .i64 (rankOf [a, c]), fv])
      unfold lkO at f1
      have e2 : stS (s1.new (.cells [Value.int .i64 0, Value.nilFunc])) 2 (.pointer (some ⟨s1.n, 0, none⟩)) (.agg #[Value.int .i64 (rankOf [a, c]), fv]) = some ((s1.new (.cells [Value.int .i64 0, Value.nilFunc])).put s1.n (.cells [Value.int .i64 (rankOf [a, c]), fv])) := by
        have l2 : ([Value.int .i64 (rankOf [a, c]), fv] : List Value).all okCell = true := by simp [f2]; rfl
        have ea : (#[Value.int .i64 (rankOf [a, c]), fv] : Array Value) = ([Value.int .i64 (rankOf [a, c]), fv] : List Value).toArray := rfl
        have e3 : ([Value.int .i64 (rankOf [a, c]), fv] : List Value).length = 2 := rfl
        rw [st_p, h2.obj, ea]
        refine (stN _ _ _ _ _ e3 l2).trans ?_
        rw [if_pos (by simp)]
        rfl
      have e : nextP (a :: c :: t) = [a, c] := by
        show (if rankOf [a, c] ≠ 0 ∨ asgn [a, c] = true then _ else _) = _
        rw [if_pos (.inl hr)]
      rw [e] at hk
      rw [f1]
      (try simp (maxSteps := 1000000) (dsimp := false) (disch := (first | omega | (simp only [okR]; done) | (simp only [sizeR] <;> omega) | fail)) only [↓preR, postR, ↓w_stop, Nat.reduceEqDiff, Nat.reduceAdd, Nat.reduceSub, Nat.reduceMul, Int.reduceNeg, Nat.reduceLT, Int.reduceToNat, Nat.reduceLeDiff, Nat.sub_zero, Option.getD_some, Option.isSome_some, ↓e2])
      exact hk _ h3.drop
end
end Go.Proofs.YtkbpbagjbjkpmaaGreatDoor

/- The worker at an expression: an operator done, parts that are passed over. Conditions: as each theorem says. -/
namespace Go.Proofs.YtkbpbagjbjkpmaaGreatDoor
open E Go.Lib
set_option linter.unusedVariables false
set_option linter.unusedSimpArgs false
set_option maxHeartbeats 1000000
set_option maxRecDepth 20000

def doesB (op : Str) (a c : Int) (st : ASt) (b : Bool) : Int × ASt := if b = true then (0, st) else doesP op a c st
section
variable {σ σ' : AS} {X : Ce} {R : List Ck} {k : Value → AS → Prop} {s w : Str} {p m : Nat} {ops : List (Str × Value)} {vv u f : Value} {st : ASt} {b is : Bool} {x y : Int} {op : Str} {Q : Int → ASt → Bool → Prop}
theorem does_c (hO : OpsOk X ops) (h0 : ¬ rankOf op = 0) (h1 : ¬ rankOf op = 1) (h2 : ¬ rankOf op = 2) (hx : inI64 x) (hy : inI64 y) (h : Hs σ X (WkR p m ops vv u st b R))
    (hk : ∀ σ', Hs σ' X (WkR p m ops vv u (doesB op x y st b).2 b R) → k (.int .i64 (doesB op x y st b).1) σ') : kCall Tryz.prog 57 [pvw p, .string (bs op), .int .i64 x, .int .i64 y] σ k := by
  refine f57 ?_
  unfold doesB doesP at hk
  (try simp (maxSteps := 1000000) (dsimp := false) (disch := (first | omega | (simp only [okR]; done) | (simp only [sizeR] <;> omega) | fail)) only [↓preR, postR, ↓w_stop, Nat.reduceEqDiff, Nat.reduceAdd, Nat.reduceSub, Nat.reduceMul, Int.reduceNeg, Nat.reduceLT, Int.reduceToNat, Nat.reduceLeDiff, Nat.sub_zero, F57])
  refine join_now ?_
  (try simp (maxSteps := 1000000) (dsimp := false) (disch := (first | omega | (simp only [okR]; done) | (simp only [sizeR] <;> omega) | fail)) only [↓preR, postR, ↓w_stop, Nat.reduceEqDiff, Nat.reduceAdd, Nat.reduceSub, Nat.reduceMul, Int.reduceNeg, Nat.reduceLT, Int.reduceToNat, Nat.reduceLeDiff, Nat.sub_zero])
  refine live_c h ?_
  cases b with
  | true =>
    rw [Bool.not_true, Bool.and_false]
    (try simp (maxSteps := 1000000) (dsimp := false) (disch := (first | omega | (simp only [okR]; done) | (simp only [sizeR] <;> omega) | fail)) only [↓preR, postR, ↓w_stop, Nat.reduceEqDiff, Nat.reduceAdd, Nat.reduceSub, Nat.reduceMul, Int.reduceNeg, Nat.reduceLT, Int.reduceToNat, Nat.reduceLeDiff, Nat.sub_zero])
    exact hk _ h
  | false =>
    rw [Bool.not_false, Bool.and_true]
    cases hl : st.live with
    | false =>
      rw [hl] at hk
      (try simp (maxSteps := 1000000) (dsimp := false) (disch := (first | omega | (simp only [okR]; done) | (simp only [sizeR] <;> omega) | fail)) only [↓preR, postR, ↓w_stop, Nat.reduceEqDiff, Nat.reduceAdd, Nat.reduceSub, Nat.reduceMul, Int.reduceNeg, Nat.reduceLT, Int.reduceToNat, Nat.reduceLeDiff, Nat.sub_zero])
      exact hk _ h
    | true =>
      rw [hl] at hk
      obtain ⟨fv, f1, _, f3⟩ := hO.yes _ h0
      unfold lkO at f1
      (try simp (maxSteps := 1000000) (dsimp := false) (disch := (first | omega | (simp only [okR]; done) | (simp only [sizeR] <;> omega) | fail)) only [↓preR, postR, ↓w_stop, Nat.reduceEqDiff, Nat.reduceAdd, Nat.reduceSub, Nat.reduceMul, Int.reduceNeg, Nat.reduceLT, Int.reduceToNat, Nat.reduceLeDiff, Nat.sub_zero, h.obj])
      refine lk_by (κ := Str) (k := op) (h.front 2 rfl) Tryz.underlying45 Tryz.underlying9 zero_op ?_
      rw [f1]
      (try simp (maxSteps := 1000000) (dsimp := false) (disch := (first | omega | (simp only [okR]; done) | (simp only [sizeR] <;> omega) | fail)) only [↓preR, postR, ↓w_stop, Nat.reduceEqDiff, Nat.reduceAdd, Nat.reduceSub, Nat.reduceMul, Int.reduceNeg, Nat.reduceLT, Int.reduceToNat, Nat.reduceLeDiff, Nat.sub_zero, Option.getD_some])
      refine f3 h1 h2 _ _ _ _ _ hx hy h fun s1 g1 => ?_
      have g2 := g1.put (cs' := wkC { st with fell := (doP op x y).2 } false m vv u)
      (try simp (maxSteps := 1000000) (dsimp := false) (disch := (first | omega | (simp only [okR]; done) | (simp only [sizeR] <;> omega) | fail)) only [↓preR, postR, ↓w_stop, Nat.reduceEqDiff, Nat.reduceAdd, Nat.reduceSub, Nat.reduceMul, Int.reduceNeg, Nat.reduceLT, Int.reduceToNat, Nat.reduceLeDiff, Nat.sub_zero, g1.obj])
      exact hk _ g2
theorem pass_c (hov : st.over ≤ 1000000) (h : Hs σ X (WkR p m ops vv u st b R))
    (hcall : ∀ σ1 q (k1 : Value → AS → Prop), Hs σ1 X (WkR p m ops vv u (st.pass is) b (Cel q [pvw p] :: R)) → (∀ v st' b' u' σ', Q v st' b' → Hs σ' X (WkR p m ops vv u' st' b' (Cel q [pvw p] :: R)) → k1 (.int .i64 v) σ') → kCallv Tryz.prog f [] σ1 k1)
    (hQ : ∀ v st' b', Q v st' b' → st'.over = (st.pass is).over)
    (hk : ∀ v st' b' u' σ', Q v st' b' → Hs σ' X (WkR p m ops vv u' (st'.un st.over) b' R) → k (.int .i64 v) σ') :
    kCall Tryz.prog 82 [pvw p, .bool is, f] σ k := by
  refine f82 ?_
  have h1 : Hs _ X (WkR p m ops vv u st b (Cel σ.n [pvw p] :: R)) := (h.new (cs := [pvw p])).un3
  (try simp (maxSteps := 1000000) (dsimp := false) (disch := (first | omega | (simp only [okR]; done) | (simp only [sizeR] <;> omega) | fail)) only [↓preR, postR, ↓w_stop, Nat.reduceEqDiff, Nat.reduceAdd, Nat.reduceSub, Nat.reduceMul, Int.reduceNeg, Nat.reduceLT, Int.reduceToNat, Nat.reduceLeDiff, Nat.sub_zero, F82])
  generalize AS.new σ _ = s1 at h1 ⊢
  generalize σ.n = q at h1 ⊢
  refine join_now ?_
  cases is with
  | true =>
    (try simp (maxSteps := 1000000) (dsimp := false) (disch := (first | omega | (simp only [okR]; done) | (simp only [sizeR] <;> omega) | fail)) only [↓preR, postR, ↓w_stop, Nat.reduceEqDiff, Nat.reduceAdd, Nat.reduceSub, Nat.reduceMul, Int.reduceNeg, Nat.reduceLT, Int.reduceToNat, Nat.reduceLeDiff, Nat.sub_zero])
    refine hcall _ _ _ h1 fun v st' b' u' s2 hq h2 => ?_
    have e : st'.un st.over = st' := by
      have := hQ _ _ _ hq
      have e2 : st.over = st'.over := this.symm
      rw [e2]; rfl
    have hkk := hk v st' b' u'
    rw [e] at hkk
    (try simp (maxSteps := 1000000) (dsimp := false) (disch := (first | omega | (simp only [okR]; done) | (simp only [sizeR] <;> omega) | fail)) only [↓preR, postR, ↓w_stop, Nat.reduceEqDiff, Nat.reduceAdd, Nat.reduceSub, Nat.reduceMul, Int.reduceNeg, Nat.reduceLT, Int.reduceToNat, Nat.reduceLeDiff, Nat.sub_zero])
    exact hkk _ hq (h2.front 3 rfl).drop
  | false =>
    have h2 := h1.put (cs' := wkC (st.pass false) b m vv u)
    have h3q := h1.obj3
    have e1 : (st.over : Int) + 1 = ((st.over + 1 : Nat) : Int) := by omega
    (try simp (maxSteps := 1000000) (dsimp := false) (disch := (first | omega | (simp only [okR]; done) | (simp only [sizeR] <;> omega) | fail)) only [↓preR, postR, ↓w_stop, Nat.reduceEqDiff, Nat.reduceAdd, Nat.reduceSub, Nat.reduceMul, Int.reduceNeg, Nat.reduceLT, Int.reduceToNat, Nat.reduceLeDiff, Nat.sub_zero, h1.obj, h3q, e1])
    refine dfr_by ?_
    (try simp (maxSteps := 1000000) (dsimp := false) (disch := (first | omega | (simp only [okR]; done) | (simp only [sizeR] <;> omega) | fail)) only [↓preR, postR, ↓w_stop, Nat.reduceEqDiff, Nat.reduceAdd, Nat.reduceSub, Nat.reduceMul, Int.reduceNeg, Nat.reduceLT, Int.reduceToNat, Nat.reduceLeDiff, Nat.sub_zero])
    refine hcall _ _ _ h2 fun v st' b' u' s2 hq h3 => ?_
    have h4 := h3.put (cs' := wkC (st'.un st.over) b' m vv u')
    have h5q := h3.obj3
    have e2 : (st'.over : Int) - 1 = (st.over : Int) := by
      have : st'.over = st.over + 1 := hQ _ _ _ hq
      omega
    (try simp (maxSteps := 1000000) (dsimp := false) (disch := (first | omega | (simp only [okR]; done) | (simp only [sizeR] <;> omega) | fail)) only [↓preR, postR, ↓w_stop, Nat.reduceEqDiff, Nat.reduceAdd, Nat.reduceSub, Nat.reduceMul, Int.reduceNeg, Nat.reduceLT, Int.reduceToNat, Nat.reduceLeDiff, Nat.sub_zero])
    refine ⟨by kernel_rfl, fnD_by (by kernel_rfl) (F103_ok _ _ _) ?_⟩
    (try simp (maxSteps := 1000000) (dsimp := false) (disch := (first | omega | (simp only [okR]; done) | (simp only [sizeR] <;> omega) | fail)) only [↓preR, postR, ↓w_stop, Nat.reduceEqDiff, Nat.reduceAdd, Nat.reduceSub, Nat.reduceMul, Int.reduceNeg, Nat.reduceLT, Int.reduceToNat, Nat.reduceLeDiff, Nat.sub_zero, F103, h3.obj, h5q, e2])
    exact hk _ _ _ _ _ hq (h4.front 3 rfl).drop
end
end Go.Proofs.YtkbpbagjbjkpmaaGreatDoor

/- The worker asks for a name: variables, then what the expression has set. Conditions: as each theorem says. -/
namespace Go.Proofs.YtkbpbagjbjkpmaaGreatDoor
open E Go.Lib
open Rp
set_option linter.unusedVariables false
set_option linter.unusedSimpArgs false
set_option maxHeartbeats 1000000
set_option maxRecDepth 20000

def lookV (vars : List (Str × Str)) (name : Str) : Int × Int := valueP (((vars.find? fun p => decide (p.1 = name)).map (·.2)).getD [])
def askB (look : Str → Int × Int) (st : ASt) (b : Bool) (name : Str) : Int × ASt := if b = true then (0, st) else askP look st name
theorem pair_at {X : Ce} {u : Value} {l : List (Str × Str)} (h : RepL X u l) : ∃ a b o cap, u = .slice a l.length cap ∧ l.length ≤ cap ∧ cap ≤ maxLen ∧ ∀ i (hi : i < l.length), a = some ⟨b, o, none⟩ ∧
    X b (o + i * 2) = some (.string (bs l[i].1)) ∧ X b (o + i * 2 + 1) = some (.string (bs l[i].2)) ∧ l[i].1.length ≤ maxLen ∧ l[i].2.length ≤ maxLen := by
  obtain ⟨a, b, o, cap, h1, h2, h3, h4⟩ := h.get
  refine ⟨a, b, o, cap, h1, h2, h3, fun i hi => ?_⟩
  obtain ⟨h5, cs, ⟨x, y, rfl, ⟨rfl, hx⟩, ⟨rfl, hy⟩⟩, h7, h8⟩ := h4 i hi
  exact ⟨h5, h8 0 _ rfl, h8 1 _ rfl, hx, hy⟩
/-- Where a name is first. -/
def idxN (name : Str) : List (Str × Str) → Option Nat
  | [] => none
  | p :: l => if p.1 = name then some 0 else (idxN name l).map (· + 1)
theorem idxN_c (name : Str) (p : Str × Str) (l : List (Str × Str)) : idxN name (p :: l) = if p.1 = name then some 0 else (idxN name l).map (· + 1) := rfl
theorem idxN_lt {name : Str} : ∀ {l : List (Str × Str)} {n : Nat}, idxN name l = some n → ∃ hn : n < l.length, l.find? (fun p => decide (p.1 = name)) = some l[n]
  | [], n, h => by cases h
  | p :: l, n, h => by
    unfold idxN at h
    rw [List.find?_cons]
    split at h
    · rename_i hp
      cases h
      exact ⟨by simp, by simp [hp]⟩
    · rename_i hp
      cases hq : idxN name l with
      | none => rw [hq] at h; cases h
      | some j =>
        rw [hq] at h
        cases h
        obtain ⟨h1, h2⟩ := idxN_lt hq
        refine ⟨by simp; omega, ?_⟩
        simp only [decide_eq_false hp]
        exact h2
theorem idxN_no {name : Str} : ∀ {l : List (Str × Str)}, idxN name l = none → l.find? (fun p => decide (p.1 = name)) = none
  | [], _ => rfl
  | p :: l, h => by
    unfold idxN at h
    rw [List.find?_cons]
    split at h
    · cases h
    · rename_i hp
      simp only [decide_eq_false hp]
      refine idxN_no ?_
      cases hq : idxN name l with
      | none => rfl
      | some j => rw [hq] at h; cases h
/-- The last value of a name. -/
def lastN (name : Str) (l : List (Str × Str)) (v : Str) : Str := l.foldl (fun v p => if p.1 = name then p.2 else v) v
theorem lastN_snoc (name : Str) (l : List (Str × Str)) (p : Str × Str) (v : Str) : lastN name (l ++ [p]) v = if p.1 = name then p.2 else lastN name l v := by
  unfold lastN; rw [List.foldl_append]; rfl
theorem lookS_snoc (l : List (Str × Int)) (p : Str × Int) (name : Str) : lookS (l ++ [p]) name = if p.1 = name then some p.2 else lookS l name := by
  unfold lookS
  rw [List.reverse_append]
  show ((p :: l.reverse).find? _).map _ = _
  rw [List.find?_cons]
  by_cases h : p.1 = name
  · simp [h]
  · simp [h]
theorem lastN_look (name v : Str) : ∀ (n : Nat) (l : List (Str × Int)), l.length = n → lastN name (l.map fun q => (q.1, itoa q.2)) v = match lookS l name with | some n => itoa n | none => v
  | 0, l, h => by
    have : l = [] := List.length_eq_zero_iff.1 h
    subst this; rfl
  | n + 1, l, h => by
    obtain ⟨r, p, rfl⟩ : ∃ r p, l = r ++ [p] := ⟨l.dropLast, l.getLast (by intro e; subst e; simp at h), (List.dropLast_concat_getLast _).symm⟩
    rw [List.map_append, List.map_singleton, lastN_snoc, lookS_snoc, lastN_look name v n r (by simp at h; omega)]
    by_cases hp : p.1 = name
    · simp only [hp, if_true]
    · simp only [hp, if_false]
theorem dec_len : ∀ (k u : Nat), u < 10 ^ (k + 1) → (decDigits u).length ≤ k + 1 := by
  intro k
  induction k with
  | zero =>
    intro u h
    rw [decDigits, dif_pos (by simpa using h)]
    simp
  | succ k ih =>
    intro u h
    rw [decDigits]
    split
    · simp
    · have := ih (u / 10) (by rw [Nat.pow_succ] at h; omega)
      rw [List.length_append, List.length_singleton]
      omega
theorem itoa_len {n : Int} (h : inI64 n) : (itoa n).length ≤ 20 := by
  unfold inI64 at h
  unfold itoa
  split
  · have := dec_len 18 n.natAbs (by omega)
    rw [List.length_cons]; omega
  · have := dec_len 18 n.toNat (by omega)
    omega
section
variable {σ σ' : AS} {X : Ce} {R : List Ck} {k : Value → AS → Prop} {name : Str} {p m q i : Nat} {ops : List (Str × Value)} {vv u f : Value} {st : ASt} {b is : Bool} {vars : List (Str × Str)}
/-- Is a pair's name the one that is asked for? -/
theorem isname_c {x y : Str} (h : Hs σ X R) (hq : R[i]? = some (Cel q [.string (bs name)])) (hk : ∀ σ', Hs σ' X R → k (.bool (decide (x = name))) σ') :
    kCall Tryz.prog 83 [.agg #[.string (bs x), .string (bs y)], .pointer (some ⟨q, 0, none⟩)] σ k := by
  refine f83 ?_
  have hn := (h.front i hq).obj
  have hlt := (h.front i hq).lt
  have h1 := h.junk (.cells [.string (bs x), .string (bs y)])
  have hne : ¬ q = σ.n := by omega
  (try simp (maxSteps := 1000000) (dsimp := false) (disch := (first | omega | (simp only [okR]; done) | (simp only [sizeR] <;> omega) | fail)) only [↓preR, postR, ↓w_stop, Nat.reduceEqDiff, Nat.reduceAdd, Nat.reduceSub, Nat.reduceMul, Int.reduceNeg, Nat.reduceLT, Int.reduceToNat, Nat.reduceLeDiff, Nat.sub_zero, F83, hn, hne])
  exact hk _ h1
theorem idxf_c (hr : RepL X vv vars) (h : Hs σ X R) (hq : R[i]? = some (Cel q [.string (bs name)])) (hk : ∀ σ', Hs σ' X R → k (.int .i64 (match idxN name vars with | some n => (n : Int) | none => -1)) σ') :
    kCall Tryz.prog 84 [vv, .func (.func 83) #[] #[.pointer (some ⟨q, 0, none⟩)]] σ k := by
  obtain ⟨va, vb, vo, vcap, rfl, hc, hm, hat⟩ := pair_at hr
  unfold maxLen at hm
  refine f84 ?_
  (try simp (maxSteps := 1000000) (dsimp := false) (disch := (first | omega | (simp only [okR]; done) | (simp only [sizeR] <;> omega) | fail)) only [↓preR, postR, ↓w_stop, Nat.reduceEqDiff, Nat.reduceAdd, Nat.reduceSub, Nat.reduceMul, Int.reduceNeg, Nat.reduceLT, Int.reduceToNat, Nat.reduceLeDiff, Nat.sub_zero, F84])
  refine join_now ?_
  (try simp (maxSteps := 1000000) (dsimp := false) (disch := (first | omega | (simp only [okR]; done) | (simp only [sizeR] <;> omega) | fail)) only [↓preR, postR, ↓w_stop, Nat.reduceEqDiff, Nat.reduceAdd, Nat.reduceSub, Nat.reduceMul, Int.reduceNeg, Nat.reduceLT, Int.reduceToNat, Nat.reduceLeDiff, Nat.sub_zero])
  refine loop_inv (fun nn xs s1 => ∃ j : Nat, xs = [.int .i64 j] ∧ Hs s1 X R ∧ j ≤ vars.length ∧ idxN name vars = (idxN name (vars.drop j)).map (· + j) ∧ nn = vars.length - j) _ ⟨0, rfl, h, Nat.zero_le _, by simp, rfl⟩ ?_
  rintro _ _ s1 again ⟨j, rfl, h1, hj, hpre, rfl⟩ hag
  (try simp (maxSteps := 1000000) (dsimp := false) (disch := (first | omega | (simp only [okR]; done) | (simp only [sizeR] <;> omega) | fail)) only [↓preR, postR, ↓w_stop, Nat.reduceEqDiff, Nat.reduceAdd, Nat.reduceSub, Nat.reduceMul, Int.reduceNeg, Nat.reduceLT, Int.reduceToNat, Nat.reduceLeDiff, Nat.sub_zero])
  refine join_now ?_
  by_cases hlt : j < vars.length
  · obtain ⟨rfl, c0, c1, _, _⟩ := hat j hlt
    have g0 := h1.ldx c0
    have g1 := h1.ldx c1
    (try simp (maxSteps := 1000000) (dsimp := false) (disch := (first | omega | (simp only [okR]; done) | (simp only [sizeR] <;> omega) | fail)) only [↓preR, postR, ↓w_stop, Nat.reduceEqDiff, Nat.reduceAdd, Nat.reduceSub, Nat.reduceMul, Int.reduceNeg, Nat.reduceLT, Int.reduceToNat, Nat.reduceLeDiff, Nat.sub_zero])
    refine join_now ?_
    (try simp (maxSteps := 1000000) (dsimp := false) (disch := (first | omega | (simp only [okR]; done) | (simp only [sizeR] <;> omega) | fail)) only [↓preR, postR, ↓w_stop, Nat.reduceEqDiff, Nat.reduceAdd, Nat.reduceSub, Nat.reduceMul, Int.reduceNeg, Nat.reduceLT, Int.reduceToNat, Nat.reduceLeDiff, Nat.sub_zero, g0, g1])
    refine callv_by (a := []) (b := [.pointer (some ⟨q, 0, none⟩)]) (by kernel_rfl) (isname_c h1 hq fun s2 h2 => ?_)
    rw [List.drop_eq_getElem_cons hlt, idxN_c] at hpre
    by_cases hn : vars[j].1 = name
    · rw [if_pos hn] at hpre
      rw [hpre] at hk
      (try simp (maxSteps := 1000000) (dsimp := false) (disch := (first | omega | (simp only [okR]; done) | (simp only [sizeR] <;> omega) | fail)) only [↓preR, postR, ↓w_stop, Nat.reduceEqDiff, Nat.reduceAdd, Nat.reduceSub, Nat.reduceMul, Int.reduceNeg, Nat.reduceLT, Int.reduceToNat, Nat.reduceLeDiff, Nat.sub_zero, hn])
      simpa using hk _ h2
    · rw [if_neg hn] at hpre
      (try simp (maxSteps := 1000000) (dsimp := false) (disch := (first | omega | (simp only [okR]; done) | (simp only [sizeR] <;> omega) | fail)) only [↓preR, postR, ↓w_stop, Nat.reduceEqDiff, Nat.reduceAdd, Nat.reduceSub, Nat.reduceMul, Int.reduceNeg, Nat.reduceLT, Int.reduceToNat, Nat.reduceLeDiff, Nat.sub_zero, hn])
      refine hag _ _ _ ⟨j + 1, rfl, h2, hlt, ?_, rfl⟩ (by omega)
      rw [hpre]
      cases idxN name (vars.drop (j + 1)) with
      | none => rfl
      | some n => simp; omega
  · rw [List.drop_of_length_le (by omega)] at hpre
    rw [hpre] at hk
    (try simp (maxSteps := 1000000) (dsimp := false) (disch := (first | omega | (simp only [okR]; done) | (simp only [sizeR] <;> omega) | fail)) only [↓preR, postR, ↓w_stop, Nat.reduceEqDiff, Nat.reduceAdd, Nat.reduceSub, Nat.reduceMul, Int.reduceNeg, Nat.reduceLT, Int.reduceToNat, Nat.reduceLeDiff, Nat.sub_zero])
    exact hk _ h1
theorem pair_own {L : List (Str × Str)} {n : Nat} (h : Hs σ X (E.Own u L :: R)) (hn : n < L.length) : ∃ g c ys, u = .slice (some ⟨g, 0, none⟩) L.length c ∧ L.length ≤ c ∧ c ≤ maxLen ∧ σ.m g = some (.cells ys) ∧
    ys[n * 2]? = some (.string (bs L[n].1)) ∧ ys[n * 2 + 1]? = some (.string (bs L[n].2)) := by
  obtain ⟨g, c, cs, ys, h1, h2, h3, ⟨x, y, rfl, ⟨rfl, hx⟩, ⟨rfl, hy⟩⟩, h5, h6, h7, h8⟩ := Own.cell h hn
  exact ⟨g, c, ys, h1, h2, h3, h5, h7 0 _ rfl, h7 1 _ rfl⟩
/-- The variables are read as they lie. -/
structure VarsI (X : Ce) (vv : Value) (vars : List (Str × Str)) : Prop where
  r : RepL X vv vars
  l : ∀ p, p ∈ vars → p.2.length ≤ 1000000
/-- Two variables of Go's library. -/
structure ErrI (X : Ce) : Prop where
  s : ∃ te pe, X 2 0 = some (.iface te pe)
  r : ∃ te pe, X 3 0 = some (.iface te pe)
theorem ask_c {B : Nat} (hV : VarsI X vv vars) (hE : ErrI X) (hI : SetsI B st.sets) (h : Hs σ X (WkR p m ops vv u st b R))
    (hk : ∀ σ', Hs σ' X (WkR p m ops vv u (askB (lookV vars) st b name).2 b R) → k (.int .i64 (askB (lookV vars) st b name).1) σ') :
    kCall Tryz.prog 58 [pvw p, .string (bs name)] σ k := by
  obtain ⟨te1, pe1, hS⟩ := hE.s
  obtain ⟨te2, pe2, hR⟩ := hE.r
  refine f58 ?_
  have h1 : Hs _ X (WkR p m ops vv u st b (Cel σ.n [.string (bs name)] :: R)) := (h.new (cs := [.string (bs name)])).un3
  (try simp (maxSteps := 1000000) (dsimp := false) (disch := (first | omega | (simp only [okR]; done) | (simp only [sizeR] <;> omega) | fail)) only [↓preR, postR, ↓w_stop, Nat.reduceEqDiff, Nat.reduceAdd, Nat.reduceSub, Nat.reduceMul, Int.reduceNeg, Nat.reduceLT, Int.reduceToNat, Nat.reduceLeDiff, Nat.sub_zero, F58])
  generalize AS.new σ _ = s1 at h1 ⊢
  generalize σ.n = q at h1 ⊢
  refine join_now ?_
  (try simp (maxSteps := 1000000) (dsimp := false) (disch := (first | omega | (simp only [okR]; done) | (simp only [sizeR] <;> omega) | fail)) only [↓preR, postR, ↓w_stop, Nat.reduceEqDiff, Nat.reduceAdd, Nat.reduceSub, Nat.reduceMul, Int.reduceNeg, Nat.reduceLT, Int.reduceToNat, Nat.reduceLeDiff, Nat.sub_zero])
  refine live_c h1 ?_
  unfold askB askP at hk
  cases b with
  | true =>
    rw [Bool.not_true, Bool.and_false]
    (try simp (maxSteps := 1000000) (dsimp := false) (disch := (first | omega | (simp only [okR]; done) | (simp only [sizeR] <;> omega) | fail)) only [↓preR, postR, ↓w_stop, Nat.reduceEqDiff, Nat.reduceAdd, Nat.reduceSub, Nat.reduceMul, Int.reduceNeg, Nat.reduceLT, Int.reduceToNat, Nat.reduceLeDiff, Nat.sub_zero])
    exact hk _ (h1.front 3 rfl).drop
  | false =>
    rw [Bool.not_false, Bool.and_true]
    cases hl : st.live with
    | false =>
      rw [hl] at hk
      (try simp (maxSteps := 1000000) (dsimp := false) (disch := (first | omega | (simp only [okR]; done) | (simp only [sizeR] <;> omega) | fail)) only [↓preR, postR, ↓w_stop, Nat.reduceEqDiff, Nat.reduceAdd, Nat.reduceSub, Nat.reduceMul, Int.reduceNeg, Nat.reduceLT, Int.reduceToNat, Nat.reduceLeDiff, Nat.sub_zero])
      exact hk _ (h1.front 3 rfl).drop
    | true =>
      rw [hl] at hk
      have hfell : st.fell = 0 := by
        unfold ASt.live at hl
        simp at hl
        exact hl.2
      simp only [if_true, Bool.false_eq_true, if_false] at hk
      (try simp (maxSteps := 1000000) (dsimp := false) (disch := (first | omega | (simp only [okR]; done) | (simp only [sizeR] <;> omega) | fail)) only [↓preR, postR, ↓w_stop, Nat.reduceEqDiff, Nat.reduceAdd, Nat.reduceSub, Nat.reduceMul, Int.reduceNeg, Nat.reduceLT, Int.reduceToNat, Nat.reduceLeDiff, Nat.sub_zero, h1.obj])
      refine join_by fun J2 hJ2 => ?_
      (try simp (maxSteps := 1000000) (dsimp := false) (disch := (first | omega | (simp only [okR]; done) | (simp only [sizeR] <;> omega) | fail)) only [↓preR, postR, ↓w_stop, Nat.reduceEqDiff, Nat.reduceAdd, Nat.reduceSub, Nat.reduceMul, Int.reduceNeg, Nat.reduceLT, Int.reduceToNat, Nat.reduceLeDiff, Nat.sub_zero, h1.obj])
      refine idxf_c hV.r h1 (i := 3) rfl fun s2 h2 => ?_
      have tail : ∀ v0 : Str, v0 = ((vars.find? fun p => decide (p.1 = name)).map (·.2)).getD [] → v0.length ≤ 1000000 → J2 [.string (bs v0)] s2 := by
        intro v0 hv0 hvl
        refine hJ2 _ _ ?_
        clear hJ2
        obtain ⟨ux, uc, rfl, huc⟩ := h2.own1
        have hlen : (setsT st).length = st.sets.length := by simp
        (try simp (maxSteps := 1000000) (dsimp := false) (disch := (first | omega | (simp only [okR]; done) | (simp only [sizeR] <;> omega) | fail)) only [↓preR, postR, ↓w_stop, Nat.reduceEqDiff, Nat.reduceAdd, Nat.reduceSub, Nat.reduceMul, Int.reduceNeg, Nat.reduceLT, Int.reduceToNat, Nat.reduceLeDiff, Nat.sub_zero, h2.obj])
        refine join_by fun J3 hJ3 => ?_
        have tail3 : ∀ s3, Hs s3 X (WkR p m ops vv (.slice ux (setsT st).length uc) st false (Cel q [.string (bs name)] :: R)) → J3 [.string (bs (lastN name (setsT st) v0))] s3 := by
          intro s3 h3
          refine hJ3 _ _ ?_
          clear hJ3
          rw [lastN_look name v0 _ st.sets rfl]
          cases hls : lookS st.sets name with
          | some n =>
            rw [hls] at hk
            have hn := look_in hI hls
            have hv := val_itoa hn
            (try simp (maxSteps := 1000000) (dsimp := false) (disch := (first | omega | (simp only [okR]; done) | (simp only [sizeR] <;> omega) | fail)) only [↓preR, postR, ↓w_stop, Nat.reduceEqDiff, Nat.reduceAdd, Nat.reduceSub, Nat.reduceMul, Int.reduceNeg, Nat.reduceLT, Int.reduceToNat, Nat.reduceLeDiff, Nat.sub_zero])
            refine value_c hS hR (by have := itoa_len hn; omega) h3 fun s4 h4 => ?_
            rw [hv]
            have h5 := h4.put (cs' := wkC st false m vv (.slice ux (setsT st).length uc))
            rw [← hfell]
            (try simp (maxSteps := 1000000) (dsimp := false) (disch := (first | omega | (simp only [okR]; done) | (simp only [sizeR] <;> omega) | fail)) only [↓preR, postR, ↓w_stop, Nat.reduceEqDiff, Nat.reduceAdd, Nat.reduceSub, Nat.reduceMul, Int.reduceNeg, Nat.reduceLT, Int.reduceToNat, Nat.reduceLeDiff, Nat.sub_zero, h4.obj])
            exact hk _ (h5.front 3 rfl).drop
          | none =>
            rw [hls] at hk
            (try simp (maxSteps := 1000000) (dsimp := false) (disch := (first | omega | (simp only [okR]; done) | (simp only [sizeR] <;> omega) | fail)) only [↓preR, postR, ↓w_stop, Nat.reduceEqDiff, Nat.reduceAdd, Nat.reduceSub, Nat.reduceMul, Int.reduceNeg, Nat.reduceLT, Int.reduceToNat, Nat.reduceLeDiff, Nat.sub_zero])
            refine value_c hS hR hvl h3 fun s4 h4 => ?_
            have h5 := h4.put (cs' := wkC { st with fell := (valueP v0).2 } false m vv (.slice ux (setsT st).length uc))
            have elv : lookV vars name = valueP v0 := by unfold lookV; rw [← hv0]
            simp only [elv] at hk
            (try simp (maxSteps := 1000000) (dsimp := false) (disch := (first | omega | (simp only [okR]; done) | (simp only [sizeR] <;> omega) | fail)) only [↓preR, postR, ↓w_stop, Nat.reduceEqDiff, Nat.reduceAdd, Nat.reduceSub, Nat.reduceMul, Int.reduceNeg, Nat.reduceLT, Int.reduceToNat, Nat.reduceLeDiff, Nat.sub_zero, h4.obj])
            exact hk _ (h5.front 3 rfl).drop
        clear hJ3
        (try simp (maxSteps := 1000000) (dsimp := false) (disch := (first | omega | (simp only [okR]; done) | (simp only [sizeR] <;> omega) | fail)) only [↓preR, postR, ↓w_stop, Nat.reduceEqDiff, Nat.reduceAdd, Nat.reduceSub, Nat.reduceMul, Int.reduceNeg, Nat.reduceLT, Int.reduceToNat, Nat.reduceLeDiff, Nat.sub_zero, h2.obj])
        refine loop_inv (fun nn xs s3 => ∃ j : Nat, xs = [.string (bs (lastN name ((setsT st).take j) v0)), .int .i64 j] ∧ j ≤ (setsT st).length ∧ Hs s3 X (WkR p m ops vv (.slice ux (setsT st).length uc) st false (Cel q [.string (bs name)] :: R)) ∧ nn = (setsT st).length - j) _ ⟨0, rfl, Nat.zero_le _, h2, rfl⟩ ?_
        rintro _ _ s3 again ⟨j, rfl, hj, h3, rfl⟩ hag
        (try simp (maxSteps := 1000000) (dsimp := false) (disch := (first | omega | (simp only [okR]; done) | (simp only [sizeR] <;> omega) | fail)) only [↓preR, postR, ↓w_stop, Nat.reduceEqDiff, Nat.reduceAdd, Nat.reduceSub, Nat.reduceMul, Int.reduceNeg, Nat.reduceLT, Int.reduceToNat, Nat.reduceLeDiff, Nat.sub_zero])
        refine join_now ?_
        by_cases hlt : j < (setsT st).length
        rotate_left
        · (try simp (maxSteps := 1000000) (dsimp := false) (disch := (first | omega | (simp only [okR]; done) | (simp only [sizeR] <;> omega) | fail)) only [↓preR, postR, ↓w_stop, Nat.reduceEqDiff, Nat.reduceAdd, Nat.reduceSub, Nat.reduceMul, Int.reduceNeg, Nat.reduceLT, Int.reduceToNat, Nat.reduceLeDiff, Nat.sub_zero])
          have := tail3 _ h3
          rw [List.take_of_length_le (by omega)]
          exact this
        · obtain ⟨g, c, ys, e1, hlc, hcm, hym, y0, y1⟩ := pair_own h3.drop hlt
          injection e1 with e1 _ e2
          subst e1
          subst e2
          unfold maxLen at hcm
          have h4 := h3.new (cs := [Value.string (bs []), Value.string (bs [])])
          have h5 := h4.put (cs' := [Value.string (bs (setsT st)[j].1), Value.string (bs (setsT st)[j].2)])
          have ht := List.take_append_getElem hlt
          have hst := lastN_snoc name ((setsT st).take j) (setsT st)[j] v0
          rw [ht] at hst
          generalize (setsT st)[j] = pr at y0 y1 h5 hst
          (try simp (maxSteps := 1000000) (dsimp := false) (disch := (first | omega | (simp only [okR]; done) | (simp only [sizeR] <;> omega) | fail)) only [↓preR, postR, ↓w_stop, Nat.reduceEqDiff, Nat.reduceAdd, Nat.reduceSub, Nat.reduceMul, Int.reduceNeg, Nat.reduceLT, Int.reduceToNat, Nat.reduceLeDiff, Nat.sub_zero])
          refine join_now ?_
          (try simp (maxSteps := 1000000) (dsimp := false) (disch := (first | omega | (simp only [okR]; done) | (simp only [sizeR] <;> omega) | fail)) only [↓preR, postR, ↓w_stop, Nat.reduceEqDiff, Nat.reduceAdd, Nat.reduceSub, Nat.reduceMul, Int.reduceNeg, Nat.reduceLT, Int.reduceToNat, Nat.reduceLeDiff, Nat.sub_zero, hym, y0, y1])
          generalize AS.put _ _ _ = s5 at h5 ⊢
          generalize s3.n = q9 at h5 ⊢
          (try simp (maxSteps := 1000000) (dsimp := false) (disch := (first | omega | (simp only [okR]; done) | (simp only [sizeR] <;> omega) | fail)) only [↓preR, postR, ↓w_stop, Nat.reduceEqDiff, Nat.reduceAdd, Nat.reduceSub, Nat.reduceMul, Int.reduceNeg, Nat.reduceLT, Int.reduceToNat, Nat.reduceLeDiff, Nat.sub_zero, h5.obj])
          refine callv_by (a := []) (b := [.pointer (some ⟨q, 0, none⟩)]) (by kernel_rfl) (isname_c (i := 4) h5 rfl fun s6 h6 => ?_)
          by_cases hn : pr.1 = name
          · rw [if_pos hn] at hst
            (try simp (maxSteps := 1000000) (dsimp := false) (disch := (first | omega | (simp only [okR]; done) | (simp only [sizeR] <;> omega) | fail)) only [↓preR, postR, ↓w_stop, Nat.reduceEqDiff, Nat.reduceAdd, Nat.reduceSub, Nat.reduceMul, Int.reduceNeg, Nat.reduceLT, Int.reduceToNat, Nat.reduceLeDiff, Nat.sub_zero, hn, h6.obj])
            exact hag _ _ _ ⟨j + 1, by rw [hst]; rfl, hlt, h6.drop, rfl⟩ (by omega)
          · rw [if_neg hn] at hst
            (try simp (maxSteps := 1000000) (dsimp := false) (disch := (first | omega | (simp only [okR]; done) | (simp only [sizeR] <;> omega) | fail)) only [↓preR, postR, ↓w_stop, Nat.reduceEqDiff, Nat.reduceAdd, Nat.reduceSub, Nat.reduceMul, Int.reduceNeg, Nat.reduceLT, Int.reduceToNat, Nat.reduceLeDiff, Nat.sub_zero, hn])
            exact hag _ _ _ ⟨j + 1, by rw [hst]; rfl, hlt, h6.drop, rfl⟩ (by omega)
      clear hJ2
      cases hx : idxN name vars with
      | none =>
        rw [idxN_no hx] at tail
        (try simp (maxSteps := 1000000) (dsimp := false) (disch := (first | omega | (simp only [okR]; done) | (simp only [sizeR] <;> omega) | fail)) only [↓preR, postR, ↓w_stop, Nat.reduceEqDiff, Nat.reduceAdd, Nat.reduceSub, Nat.reduceMul, Int.reduceNeg, Nat.reduceLT, Int.reduceToNat, Nat.reduceLeDiff, Nat.sub_zero, h2.obj])
        exact tail [] rfl (by simp)
      | some n =>
        obtain ⟨hn, hf⟩ := idxN_lt hx
        rw [hf] at tail
        obtain ⟨va, vb, vo, vcap, rfl, hc, hm, hat⟩ := pair_at hV.r
        unfold maxLen at hm
        obtain ⟨rfl, c0, c1, _, _⟩ := hat n hn
        have g1 := h2.ldx c1
        (try simp (maxSteps := 1000000) (dsimp := false) (disch := (first | omega | (simp only [okR]; done) | (simp only [sizeR] <;> omega) | fail)) only [↓preR, postR, ↓w_stop, Nat.reduceEqDiff, Nat.reduceAdd, Nat.reduceSub, Nat.reduceMul, Int.reduceNeg, Nat.reduceLT, Int.reduceToNat, Nat.reduceLeDiff, Nat.sub_zero, h2.obj, g1])
        exact tail _ rfl (hV.l _ (List.getElem_mem hn))
end
end Go.Proofs.YtkbpbagjbjkpmaaGreatDoor
