/- The worker at an expression: what each call leaves. Conditions: as each theorem says. -/
import Derived.Test.YtdlimikcgdgfpaaGreatDoorY3
import Derived.Test.YtdlimikcgdgfpaaGreatDoorY1
import Derived.Test.YtdlimikcgdgfpaaGreatDoorS
import Derived.Lib.AtoiErrMem
import Derived.Test.YtdlimikcgdgfpaaGreatDoorT
import Derived.Lib.Bytealg
import Derived.WalkKit
import Derived.Test.YtdlimikcgdgfpaaGreatDoorY2
import Derived.Lib.ItoaNum
import Derived.Lib.Join
set_option linter.unusedVariables false
set_option linter.unusedSimpArgs false
set_option maxHeartbeats 4000000
set_option maxRecDepth 100000
open Nat renaming reduceEqDiff → Q1, reduceAdd → Q2, reduceSub → Q3, reduceMul → Q4, reduceLT → Q5, reduceLeDiff → Q6, sub_zero → Q7
open Int renaming reduceNeg → Q8, reduceToNat → Q9
namespace Go.Proofs.YtdlimikcgdgfpaaGreatDoor.A03
open Tryz renaming prog → PG
open E renaming preR → P1, postR → P2, w_join → P3, w_stop → P4, dsc → P5
open E Go.Lib
open Rp
structure After (B : Nat) (look : Str → Int × Int) (f : Nat) (md : Md) (st : ASt) (b : Bool) (v : Int) (st' : ASt) (b' : Bool) : Prop where
  num : inI64 v
  over : st'.over = st.over
  lq : Lq B st st'
  bad : b = true → b' = true
  ok : b = false → match ev look f md st with
    | none => b' = true
    | some (n, s2) => v = n ∧ st' = s2 ∧ b' = false
def needs : Md → Nat → Nat
  | .set, L => 20 * L + 18
  | .choice, L => 20 * L + 17
  | .rank r, L => 20 * L + 16 - r
  | .loop _ _, L => 20 * L + 1
  | .opnd, L => 20 * L + 2
theorem front_le : ∀ (i : Nat) (l : Str), frontF i l ≤ l.length
  | _, [] => Nat.le_refl _
  | i, c :: t => by
    unfold frontF
    split
    · have := front_le (i + 1) t
      simp only [List.length_cons]; omega
    · omega
def oneB (x : UInt8) : Prop := x = 41 ∨ x = 63 ∨ x = 58
theorem next_one {x : UInt8} (hx : oneB x) (l : Str) : nextP l = [x] ↔ ∃ t, l = x :: t := by
  have h2 : ∀ y : UInt8, rankOf [x, y] = 0 ∧ asgn [x, y] = false := by
    intro y
    rcases hx with rfl | rfl | rfl <;> exact ⟨by unfold rankOf; split <;> simp_all, by unfold asgn; split <;> simp_all⟩
  constructor
  · intro h
    match l with
    | [] => cases h
    | [a] => injection h with h _; exact ⟨[], by rw [h]⟩
    | a :: b :: t =>
      have e : (if rankOf [a, b] ≠ 0 ∨ asgn [a, b] = true then [a, b] else [a]) = [x] := h
      split at e
      · cases e
      · injection e with e _; exact ⟨b :: t, by rw [e]⟩
  · rintro ⟨t, rfl⟩
    match t with
    | [] => rfl
    | b :: t =>
      show (if rankOf [x, b] ≠ 0 ∨ asgn [x, b] = true then [x, b] else [x]) = [x]
      rw [if_neg]
      rintro (h | h)
      · exact h (h2 b).1
      · rw [(h2 b).2] at h; cases h
section
variable (X : Ce) (p m : Nat) (ops : List (Str × Value)) (vv : Value) (B : Nat) (look : Str → Int × Int) (g : Nat) (o : Go.Obj)
def FnC (fn : Nat) (args : List Value) (md : Md) (f : Nat) : Prop := ∀ (σ : AS) (R : List Ck) (k : Value → AS → Prop) (st : ASt) (b : Bool) (u : Value) (i : Nat), needs md st.left.length ≤ f → InvS B st → R[i]? = some (Oth g o) → Hs σ X (WkR p m ops vv u st b R) →
  (∀ v st' b' u' σ', After B look f md st b v st' b' → Hs σ' X (WkR p m ops vv u' st' b' R) → k (.int .i64 v) σ') → kCall PG fn (pvw p :: args) σ k
def AllC (f : Nat) : Prop := FnC X p m ops vv B look g o 135 [] .set f ∧ FnC X p m ops vv B look g o 192 [] .choice f ∧
  (∀ r : Nat, 1 ≤ r → r ≤ 11 → FnC X p m ops vv B look g o 232 [.int .i64 r] (.rank r) f) ∧ FnC X p m ops vv B look g o 264 [] .opnd f
end
section
variable {X : Ce} {p m : Nat} {ops : List (Str × Value)} {vv : Value} {B : Nat} {look : Str → Int × Int} {g : Nat} {o : Go.Obj} {σ : AS} {k : Value → AS → Prop} {vars : List (Str × Str)}
theorem yes_c {b : Bool} (hk : k (.int .i64 (truthI b)) σ) : kCall PG 177 [.bool b] σ k := by
  refine f177 ?_
  cases b with
  | true => (try simp -dsimp (disch := first|exact P5|fail) only [↓P1,P2,↓P4,Q1,Q2,Q3,Q4,Q5,Q6,Q7,Q8,Q9, F177]); refine join_now ?_; (try simp -dsimp (disch := first|exact P5|fail) only [↓P1,P2,↓P4,Q1,Q2,Q3,Q4,Q5,Q6,Q7,Q8,Q9]); exact hk
  | false => (try simp -dsimp (disch := first|exact P5|fail) only [↓P1,P2,↓P4,Q1,Q2,Q3,Q4,Q5,Q6,Q7,Q8,Q9, F177]); refine join_now ?_; (try simp -dsimp (disch := first|exact P5|fail) only [↓P1,P2,↓P4,Q1,Q2,Q3,Q4,Q5,Q6,Q7,Q8,Q9]); exact hk
theorem xorI {n : Int} (h : inI64 n) : unV .xor (.int .i64 n) = some (.int .i64 (-n - 1)) := by
  unfold inI64 at h
  have e : (BitVec.ofInt 64 (-1) ^^^ BitVec.ofInt 64 n).toNat = 2 ^ 64 - 1 - (BitVec.ofInt 64 n).toNat := by
    rw [show BitVec.ofInt 64 (-1) = BitVec.allOnes 64 from by decide, BitVec.allOnes_xor, BitVec.toNat_not]
  have e2 : unV .xor (.int .i64 n) = some (.int .i64 (IntKind.i64.wrap ((BitVec.ofInt 64 (-1) ^^^ BitVec.ofInt 64 n).toNat))) := rfl
  have e3 : IntKind.i64.wrap (((2 ^ 64 - 1 - (n % ((2 ^ 64 : Nat) : Int)).toNat : Nat)) : Int) = -n - 1 := by
    rw [IntKind.wrap_i64]
    omega
  rw [e2, e, BitVec.toNat_ofInt]
  exact congrArg (fun z => some (Value.int .i64 z)) e3
def signV (c : UInt8) (n : Int) : Int := if c = 45 then wI (0 - n) else if c = 33 then truthI (decide (n = 0)) else if c = 126 then -n - 1 else n
theorem signV_in {c : UInt8} {n : Int} (h : inI64 n) : inI64 (signV c n) := by
  unfold signV
  split
  · exact wI_in _
  split
  · exact truth_in _
  split
  · unfold inI64 at *; omega
  · exact h
theorem After.sign {B : Nat} {look : Str → Int × Int} {f : Nat} {st st' : ASt} {b' : Bool} {c : UInt8} {t : Str} {v : Int} (a : After B look f .opnd (st.skip.at t) false v st' b') (hI : SetsI B st.sets) (hl : st.skip.left = c :: t) (hc : c = 43 ∨ c = 45 ∨ c = 33 ∨ c = 126) :
    After B look (f + 1) .opnd st false (signV c v) st' b' :=
  ⟨signV_in a.num, a.over, (((Lq.refl hI).skip).at (by rw [hl]; simp)).trans a.lq, fun h => (by cases h), fun _ => by
    have h1 := a.ok rfl
    unfold ev
    simp only [hl]
    rw [if_pos hc]
    cases he : ev look f .opnd (st.skip.at t) with
    | none => rw [he] at h1; exact h1
    | some q =>
      rw [he] at h1
      obtain ⟨n, s2⟩ := q
      obtain ⟨rfl, rfl, rfl⟩ := h1
      exact ⟨rfl, rfl, rfl⟩⟩
theorem opnd_c {f : Nat} (hB : B ≤ 1000000) (hO : OpsOk X ops) (hE : ErrI X) (hV : VarsI X vv vars) (hL : LookI (lookV vars)) (ih : AllC X p m ops vv B (lookV vars) g o f) : FnC X p m ops vv B (lookV vars) g o 264 [] .opnd (f + 1) := by
  intro σ R k st b u i hf hI hg h hk
  refine f264 ?_
  have hlB := hI.n
  (try simp -dsimp (disch := first|exact P5|fail) only [↓P1,P2,↓P4,Q1,Q2,Q3,Q4,Q5,Q6,Q7,Q8,Q9, F264])
  refine skip_c (by omega) h fun w s1 h1 => ?_
  have lq0 : Lq B st st.skip := (Lq.refl hI.s).skip
  (try simp -dsimp (disch := first|exact P5|fail) only [↓P1,P2,↓P4,Q1,Q2,Q3,Q4,Q5,Q6,Q7,Q8,Q9])
  refine join_by fun J1 hJ1 => ?_
  have fail_ : (b = true ∨ st.skip.left = []) → ∀ s2, Hs s2 X (WkR p m ops vv u st.skip true R) → k (.int .i64 0) s2 := by
    intro hb s2 h2
    refine hk 0 st.skip true u s2 ⟨by unfold inI64; omega, rfl, lq0, fun _ => rfl, fun hbf => ?_⟩ h2
    rcases hb with hb | hb
    · rw [hb] at hbf; cases hbf
    · unfold ev
      simp only [hb]
  cases b with
  | true =>
    have h2 := h1.put (cs' := wkC st.skip true m vv u)
    (try simp -dsimp (disch := first|exact P5|fail) only [↓P1,P2,↓P4,Q1,Q2,Q3,Q4,Q5,Q6,Q7,Q8,Q9, h1.obj])
    exact fail_ (.inl rfl) _ h2
  | false =>
  cases hl : st.skip.left with
  | nil =>
    have o1 : s1.m p = some (.cells [.string (bs []), .map (some m), vv, u, .int .i64 st.skip.over, .bool false, .int .i64 st.skip.fell]) := by rw [← hl]; exact h1.obj
    have h2 : Hs (s1.put p (.cells [.string (bs []), .map (some m), vv, u, .int .i64 st.skip.over, .bool true, .int .i64 st.skip.fell])) X (WkR p m ops vv u st.skip true R) := by rw [← hl]; exact h1.put
    (try simp -dsimp (disch := first|exact P5|fail) only [↓P1,P2,↓P4,Q1,Q2,Q3,Q4,Q5,Q6,Q7,Q8,Q9, o1])
    exact fail_ (.inr hl) _ h2
  | cons c t =>
    have o1 : s1.m p = some (.cells [.string (bs (c :: t)), .map (some m), vv, u, .int .i64 st.skip.over, .bool false, .int .i64 st.skip.fell]) := by rw [← hl]; exact h1.obj
    have hne : ¬ (c :: t : Str) = [] := by simp
    have ht : t.length + 1 ≤ st.left.length := by
      have := skip_len st.left
      have e : st.skip.left = skipB st.left := rfl
      rw [← e, hl] at this
      exact this
    have hcn : ∀ d : UInt8, ¬ c = d → ¬ (c.toNat : Int) = (d.toNat : Int) := fun d hd e => hd (UInt8.toNat_inj.1 (by omega))
    have et : List.take (t.length + 1 - 1) t = t := List.take_of_length_le (by omega)
    have lt : Lq B st (st.skip.at t) := lq0.at (by rw [hl]; simp)
    have it : InvS B (st.skip.at t) := lt.inv hI (Nat.le_refl _)
    (try simp -dsimp (disch := first|exact P5|fail) only [↓P1,P2,↓P4,Q1,Q2,Q3,Q4,Q5,Q6,Q7,Q8,Q9, o1, hne])
    refine hJ1 _ _ ?_
    clear hJ1
    have h3 := h1.put (cs' := wkC (st.skip.at t) false m vv u)
    have hft : needs .opnd t.length ≤ f := by simp only [needs] at hf ⊢; omega
    have hfs : needs .set t.length ≤ f := by simp only [needs] at hf ⊢; omega
    have sign := fun (v : Int) st' b' u' (σ' : AS) (hc : c = 43 ∨ c = 45 ∨ c = 33 ∨ c = 126) (a2 : After B (lookV vars) f .opnd (st.skip.at t) false v st' b') (h4 : Hs σ' X (WkR p m ops vv u' st' b' R)) => hk _ _ _ _ _ (a2.sign hI.s hl hc) h4
    (try simp -dsimp (disch := first|exact P5|fail) only [↓P1,P2,↓P4,Q1,Q2,Q3,Q4,Q5,Q6,Q7,Q8,Q9])
    refine join_by fun J2 hJ2 => ?_
    have sub : ∀ k1 : Value → AS → Prop, (∀ v st' b' u' σ', After B (lookV vars) f .opnd (st.skip.at t) false v st' b' → Hs σ' X (WkR p m ops vv u' st' b' R) → k1 (.int .i64 v) σ') → kCall PG 264 [pvw p] (s1.put p (.cells (wkC (st.skip.at t) false m vv u))) k1 :=
      fun k1 hk1 => ih.2.2.2 _ _ _ (st.skip.at t) false u i hft it hg h3 hk1
    by_cases c43 : c = 43
    · have n43 : (c.toNat : Int) = 43 := by rw [c43]; rfl
      have n45 : ¬ (c.toNat : Int) = 45 := by omega
      have n33 : ¬ (c.toNat : Int) = 33 := by omega
      have n126 : ¬ (c.toNat : Int) = 126 := by omega
      (try simp -dsimp (disch := first|exact P5|fail) only [↓P1,P2,↓P4,Q1,Q2,Q3,Q4,Q5,Q6,Q7,Q8,Q9, o1, Option.getD_some, n43, et])
      refine sub _ fun v st' b' u' s2 a2 h4 => ?_
      have hs := sign v st' b' u' s2 (.inl c43) a2 h4
      have es : signV c v = v := by subst c43; unfold signV; rw [if_neg (by decide), if_neg (by decide), if_neg (by decide)]
      rw [es] at hs
      (try simp -dsimp (disch := first|exact P5|fail) only [↓P1,P2,↓P4,Q1,Q2,Q3,Q4,Q5,Q6,Q7,Q8,Q9])
      refine join_now ?_
      (try simp -dsimp (disch := first|exact P5|fail) only [↓P1,P2,↓P4,Q1,Q2,Q3,Q4,Q5,Q6,Q7,Q8,Q9])
      exact hs
    by_cases c45 : c = 45
    · have n45 : (c.toNat : Int) = 45 := by rw [c45]; rfl
      have n43 : ¬ (c.toNat : Int) = 43 := by omega
      (try simp -dsimp (disch := first|exact P5|fail) only [↓P1,P2,↓P4,Q1,Q2,Q3,Q4,Q5,Q6,Q7,Q8,Q9, o1, Option.getD_some, n43, n45, et])
      refine sub _ fun v st' b' u' s2 a2 h4 => ?_
      have hs := sign v st' b' u' s2 (.inr (.inl c45)) a2 h4
      have es : signV c v = IntKind.i64.wrap (0 - v) := by unfold signV; rw [if_pos c45]; rfl
      rw [es] at hs
      (try simp -dsimp (disch := first|exact P5|fail) only [↓P1,P2,↓P4,Q1,Q2,Q3,Q4,Q5,Q6,Q7,Q8,Q9])
      refine join_now ?_
      (try simp -dsimp (disch := first|exact P5|fail) only [↓P1,P2,↓P4,Q1,Q2,Q3,Q4,Q5,Q6,Q7,Q8,Q9])
      exact hs
    by_cases c33 : c = 33
    · have n33 : (c.toNat : Int) = 33 := by rw [c33]; rfl
      have n43 : ¬ (c.toNat : Int) = 43 := by omega
      have n45 : ¬ (c.toNat : Int) = 45 := by omega
      (try simp -dsimp (disch := first|exact P5|fail) only [↓P1,P2,↓P4,Q1,Q2,Q3,Q4,Q5,Q6,Q7,Q8,Q9, o1, Option.getD_some, n43, n45, n33, et])
      refine sub _ fun v st' b' u' s2 a2 h4 => ?_
      have hs := sign v st' b' u' s2 (.inr (.inr (.inl c33))) a2 h4
      have es : signV c v = truthI (decide (v = 0)) := by unfold signV; rw [if_neg c45, if_pos c33]
      rw [es] at hs
      (try simp -dsimp (disch := first|exact P5|fail) only [↓P1,P2,↓P4,Q1,Q2,Q3,Q4,Q5,Q6,Q7,Q8,Q9])
      refine join_now ?_
      (try simp -dsimp (disch := first|exact P5|fail) only [↓P1,P2,↓P4,Q1,Q2,Q3,Q4,Q5,Q6,Q7,Q8,Q9])
      refine yes_c ?_
      (try simp -dsimp (disch := first|exact P5|fail) only [↓P1,P2,↓P4,Q1,Q2,Q3,Q4,Q5,Q6,Q7,Q8,Q9])
      exact hs
    by_cases c126 : c = 126
    · have n126 : (c.toNat : Int) = 126 := by rw [c126]; rfl
      have n43 : ¬ (c.toNat : Int) = 43 := by omega
      have n45 : ¬ (c.toNat : Int) = 45 := by omega
      have n33 : ¬ (c.toNat : Int) = 33 := by omega
      (try simp -dsimp (disch := first|exact P5|fail) only [↓P1,P2,↓P4,Q1,Q2,Q3,Q4,Q5,Q6,Q7,Q8,Q9, o1, Option.getD_some, n43, n45, n33, n126, et])
      refine sub _ fun v st' b' u' s2 a2 h4 => ?_
      have hs := sign v st' b' u' s2 (.inr (.inr (.inr c126))) a2 h4
      have es : signV c v = -v - 1 := by unfold signV; rw [if_neg c45, if_neg c33, if_pos c126]
      rw [es] at hs
      have hx := xorI a2.num
      (try simp -dsimp (disch := first|exact P5|fail) only [↓P1,P2,↓P4,Q1,Q2,Q3,Q4,Q5,Q6,Q7,Q8,Q9])
      refine join_now ?_
      (try simp -dsimp (disch := first|exact P5|fail) only [↓P1,P2,↓P4,Q1,Q2,Q3,Q4,Q5,Q6,Q7,Q8,Q9, hx])
      exact hs
    have csg : ¬ (c = 43 ∨ c = 45 ∨ c = 33 ∨ c = 126) := by rintro (h | h | h | h) <;> contradiction
    have n43 : ¬ (c.toNat : Int) = 43 := hcn 43 c43
    have n45 : ¬ (c.toNat : Int) = 45 := hcn 45 c45
    have n33 : ¬ (c.toNat : Int) = 33 := hcn 33 c33
    have n126 : ¬ (c.toNat : Int) = 126 := hcn 126 c126
    by_cases c40 : c = 40
    · have n40 : (c.toNat : Int) = 40 := by rw [c40]; rfl
      (try simp -dsimp (disch := first|exact P5|fail) only [↓P1,P2,↓P4,Q1,Q2,Q3,Q4,Q5,Q6,Q7,Q8,Q9, o1, Option.getD_some, n43, n45, n33, n126, n40, et])
      refine ih.1 _ _ _ (st.skip.at t) false u i hfs it hg h3 fun v st' b' u' s2 a2 h4 => ?_
      have hl2 : st'.left.length ≤ 1000000 := by
        have := a2.lq.left
        have e : (st.skip.at t).left.length = t.length := rfl
        omega
      (try simp -dsimp (disch := first|exact P5|fail) only [↓P1,P2,↓P4,Q1,Q2,Q3,Q4,Q5,Q6,Q7,Q8,Q9])
      refine next_c hO hl2 h4 fun s3 h5 => ?_
      (try simp -dsimp (disch := first|exact P5|fail) only [↓P1,P2,↓P4,Q1,Q2,Q3,Q4,Q5,Q6,Q7,Q8,Q9])
      have hev : ∀ q, ev (lookV vars) (f + 1) .opnd st = q → q = (match ev (lookV vars) f .set (st.skip.at t) with
          | none => none
          | some (n, s1) => match skipB s1.left with
            | 41 :: t2 => some (n, s1.at t2)
            | _ => none) := by
        intro q hq
        rw [← hq]
        conv => lhs; unfold ev
        simp only [hl]
        rw [if_neg csg, if_pos c40]
        rfl
      by_cases h41 : nextP st'.skip.left = [41]
      · obtain ⟨t2, ht2⟩ := (next_one (.inl rfl) _).1 h41
        have o3 : s3.m p = some (.cells [.string (bs (41 :: t2)), .map (some m), vv, u', .int .i64 st'.skip.over, .bool b', .int .i64 st'.skip.fell]) := by rw [← ht2]; exact h5.obj
        have h6 := h5.put (cs' := wkC (st'.skip.at t2) b' m vv u')
        have et2 : List.take (t2.length + 1 - 1) t2 = t2 := List.take_of_length_le (by omega)
        (try simp -dsimp (disch := first|exact P5|fail) only [↓P1,P2,↓P4,Q1,Q2,Q3,Q4,Q5,Q6,Q7,Q8,Q9, h41, o3, et2])
        refine hk v (st'.skip.at t2) b' u' _ ⟨a2.num, a2.over, ((lt.trans a2.lq).skip).at (by rw [ht2]; simp), fun h => (by cases h), fun _ => ?_⟩ h6
        have a3 := a2.ok rfl
        have e := hev _ rfl
        rw [e]
        cases he : ev (lookV vars) f .set (st.skip.at t) with
        | none => rw [he] at a3; exact a3
        | some q =>
          rw [he] at a3
          obtain ⟨n, s2'⟩ := q
          obtain ⟨rfl, rfl, rfl⟩ := a3
          have ht3 : skipB st'.left = 41 :: t2 := ht2
          simp only [ht3]
          first
            | exact ⟨rfl, rfl, rfl⟩
            | (simp; rfl)
      · have h6 := h5.put (cs' := wkC st'.skip true m vv u')
        (try simp -dsimp (disch := first|exact P5|fail) only [↓P1,P2,↓P4,Q1,Q2,Q3,Q4,Q5,Q6,Q7,Q8,Q9, h41, h5.obj])
        refine hk 0 st'.skip true u' _ ⟨by unfold inI64; omega, a2.over, (lt.trans a2.lq).skip, fun h => (by cases h), fun _ => ?_⟩ h6
        have a3 := a2.ok rfl
        have e := hev _ rfl
        rw [e]
        cases he : ev (lookV vars) f .set (st.skip.at t) with
        | none => rfl
        | some q =>
          rw [he] at a3
          obtain ⟨n, s2'⟩ := q
          obtain ⟨rfl, rfl, rfl⟩ := a3
          have hno : ∀ t2, ¬ skipB st'.left = 41 :: t2 := fun t2 h => h41 ((next_one (.inl rfl) _).2 ⟨t2, h⟩)
          have hm : (match skipB st'.left with | 41 :: t2 => some (v, st'.at t2) | _ => none) = none := by
            split
            · rename_i t2 h; exact absurd h (hno t2)
            · rfl
          simp only [hm]
    have n40 : ¬ (c.toNat : Int) = 40 := hcn 40 c40
    have lfr : ∀ n, Lq B st (st.skip.at ((c :: t).drop n)) := fun n => lq0.at (by rw [hl, List.length_drop]; omega)
    have hctl : (c :: t).length ≤ 1000000 := by simp only [List.length_cons]; omega
    by_cases hA : alphaB c = true
    · (try simp -dsimp (disch := first|exact P5|fail) only [↓P1,P2,↓P4,Q1,Q2,Q3,Q4,Q5,Q6,Q7,Q8,Q9, o1, Option.getD_some, n43, n45, n33, n126, n40])
      refine alpha_c ?_
      rw [hA]
      (try simp -dsimp (disch := first|exact P5|fail) only [↓P1,P2,↓P4,Q1,Q2,Q3,Q4,Q5,Q6,Q7,Q8,Q9, o1])
      refine front_c (by unfold maxLen; omega) ?_
      have hfl := front_le 0 (c :: t)
      obtain ⟨n, hn⟩ : ∃ n, n = frontF 0 (c :: t) := ⟨_, rfl⟩
      rw [← hn] at hfl ⊢
      have hfl2 : n ≤ t.length + 1 := hfl
      have etk : List.take (t.length + 1 - n) ((c :: t).drop n) = (c :: t).drop n := List.take_of_length_le (by rw [List.length_drop]; simp)
      have etl : ((c :: t).take n).length = n := by rw [List.length_take]; omega
      have h5 : Hs (s1.put p (.cells (wkC (st.skip.at ((c :: t).drop n)) false m vv u))) X (WkR p m ops vv u (st.skip.at ((c :: t).drop n)) false R) := h1.put
      (try simp -dsimp (disch := first|exact P5|fail) only [↓P1,P2,↓P4,Q1,Q2,Q3,Q4,Q5,Q6,Q7,Q8,Q9, o1, etk, etl])
      refine ask_c (st := st.skip.at ((c :: t).drop n)) (B := B) hV hE hI.s h5 fun s2 h6 => ?_
      have hask := ask_ok hL (st := st.skip.at ((c :: t).drop n)) hI.s ((c :: t).take n)
      have eb : askB (lookV vars) (st.skip.at ((c :: t).drop n)) false ((c :: t).take n) = askP (lookV vars) (st.skip.at ((c :: t).drop n)) ((c :: t).take n) := rfl
      rw [eb] at h6 ⊢
      (try simp -dsimp (disch := first|exact P5|fail) only [↓P1,P2,↓P4,Q1,Q2,Q3,Q4,Q5,Q6,Q7,Q8,Q9])
      refine hk _ _ _ _ _ ⟨hask.2.2.2, hask.1, (lfr n).same hask.2.1 hask.2.2.1, fun h => (by cases h), fun _ => ?_⟩ h6
      unfold ev
      simp only [hl]
      rw [if_neg csg, if_neg c40, if_pos hA, ← hn]
      first
        | exact ⟨rfl, rfl, rfl⟩
        | (simp; done)
        | (simp; rfl)
    by_cases hD : digitB c = true
    · (try simp -dsimp (disch := first|exact P5|fail) only [↓P1,P2,↓P4,Q1,Q2,Q3,Q4,Q5,Q6,Q7,Q8,Q9, o1, Option.getD_some, n43, n45, n33, n126, n40])
      refine alpha_c ?_
      cases hA2 : alphaB c with
      | true => exact absurd hA2 hA
      | false =>
      (try simp -dsimp (disch := first|exact P5|fail) only [↓P1,P2,↓P4,Q1,Q2,Q3,Q4,Q5,Q6,Q7,Q8,Q9])
      refine digit_c ?_
      rw [hD]
      (try simp -dsimp (disch := first|exact P5|fail) only [↓P1,P2,↓P4,Q1,Q2,Q3,Q4,Q5,Q6,Q7,Q8,Q9, o1])
      refine front_c (s := 95 :: c :: t) (by simp only [List.length_cons]; unfold maxLen; omega) ?_
      have h95 : frontF 0 (95 :: c :: t) = 1 + frontF 1 (c :: t) := by
        show (if alphaB 95 || _ then 1 + frontF 1 (c :: t) else 0) = _
        rw [show alphaB 95 = true from by decide +kernel, Bool.true_or, if_pos rfl]
      have hfl := front_le 1 (c :: t)
      obtain ⟨n, hn⟩ : ∃ n, n = frontF 1 (c :: t) := ⟨_, rfl⟩
      rw [h95]
      rw [← hn] at hfl ⊢
      have hfl2 : n ≤ t.length + 1 := hfl
      have etk : List.take (t.length + 1 - n) ((c :: t).drop n) = (c :: t).drop n := List.take_of_length_le (by rw [List.length_drop]; simp)
      have en : (((1 + n : Nat) : Int) - 1) = (n : Int) := by omega
      (try simp -dsimp (disch := first|exact P5|fail) only [↓P1,P2,↓P4,Q1,Q2,Q3,Q4,Q5,Q6,Q7,Q8,Q9, en, o1])
      have hw : ((c :: t).take n).length ≤ 1000000 := by rw [List.length_take]; omega
      obtain ⟨te1, pe1, hS⟩ := hE.s
      obtain ⟨te2, pe2, hR⟩ := hE.r
      refine num_c hS hR hw h1 fun v ok s2 hr h2 => ?_
      have o2 : s2.m p = some (.cells [.string (bs (c :: t)), .map (some m), vv, u, .int .i64 st.skip.over, .bool false, .int .i64 st.skip.fell]) := by rw [← hl]; exact h2.obj
      (try simp -dsimp (disch := first|exact P5|fail) only [↓P1,P2,↓P4,Q1,Q2,Q3,Q4,Q5,Q6,Q7,Q8,Q9, o2, etk])
      have evd : ev (lookV vars) (f + 1) .opnd st = (match numP ((c :: t).take n) with
          | none => none
          | some n1 => if 9223372036854775808 ≤ n1 then none else some ((n1 : Int), st.skip.at ((c :: t).drop n))) := by
        conv => lhs; unfold ev
        simp only [hl]
        rw [if_neg csg, if_neg c40, if_neg hA, if_pos hD, ← hn]
        rfl
      have badp : ∀ v0 : Int, (∀ n1, numP ((c :: t).take n) = some n1 → 9223372036854775808 ≤ n1) → k (.int .i64 (IntKind.i64.wrap v0)) (s2.put p (.cells (wkC (st.skip.at ((c :: t).drop n)) true m vv u))) := by
        intro v0 hno
        refine hk _ (st.skip.at ((c :: t).drop n)) true u _ ⟨wI_in _, rfl, lfr n, fun h => (by cases h), fun _ => ?_⟩ h2.put
        rw [evd]
        cases hq : numP ((c :: t).take n) with
        | none => rfl
        | some n1 => simp only [if_pos (hno n1 hq)]
      rcases hr with ⟨n1, q1, q2, rfl, rfl⟩ | ⟨rfl, q2, q3, q4⟩
      · by_cases hbig : 9223372036854775808 ≤ n1
        · have hbig' : 9223372036854775808 ≤ (n1 : Int) := by omega
          (try simp -dsimp (disch := first|exact P5|fail) only [↓P1,P2,↓P4,Q1,Q2,Q3,Q4,Q5,Q6,Q7,Q8,Q9, hbig', o2])
          exact badp _ (fun n2 h => by rw [q1] at h; cases h; exact hbig)
        · have hbig' : ¬ 9223372036854775808 ≤ (n1 : Int) := by omega
          have w1 : IntKind.i64.wrap (n1 : Int) = (n1 : Int) := wrap64 _ (by omega) (by omega)
          (try simp -dsimp (disch := first|exact P5|fail) only [↓P1,P2,↓P4,Q1,Q2,Q3,Q4,Q5,Q6,Q7,Q8,Q9, hbig', w1, o2])
          refine hk (n1 : Int) (st.skip.at ((c :: t).drop n)) false u _ ⟨by unfold inI64; omega, rfl, lfr n, fun h => (by cases h), fun _ => ?_⟩ h2.put
          rw [evd, q1]
          simp only [if_neg hbig]
          first
            | exact ⟨rfl, rfl, rfl⟩
            | (simp; done)
            | (simp; rfl)
      · (try simp -dsimp (disch := first|exact P5|fail) only [↓P1,P2,↓P4,Q1,Q2,Q3,Q4,Q5,Q6,Q7,Q8,Q9, o2])
        exact badp _ (fun n2 h => by have := q2 n2 h; omega)
    (try simp -dsimp (disch := first|exact P5|fail) only [↓P1,P2,↓P4,Q1,Q2,Q3,Q4,Q5,Q6,Q7,Q8,Q9, o1, Option.getD_some, n43, n45, n33, n126, n40])
    refine alpha_c ?_
    cases hA2 : alphaB c with
    | true => exact absurd hA2 hA
    | false =>
    (try simp -dsimp (disch := first|exact P5|fail) only [↓P1,P2,↓P4,Q1,Q2,Q3,Q4,Q5,Q6,Q7,Q8,Q9])
    refine digit_c ?_
    cases hD2 : digitB c with
    | true => exact absurd hD2 hD
    | false =>
    (try simp -dsimp (disch := first|exact P5|fail) only [↓P1,P2,↓P4,Q1,Q2,Q3,Q4,Q5,Q6,Q7,Q8,Q9])
    refine hJ2 _ _ ?_
    (try simp -dsimp (disch := first|exact P5|fail) only [↓P1,P2,↓P4,Q1,Q2,Q3,Q4,Q5,Q6,Q7,Q8,Q9, o1])
    refine hk 0 st.skip true u _ ⟨by unfold inI64; omega, rfl, lq0, fun h => (by cases h), fun _ => ?_⟩ (by have h9 := h1.put (cs' := wkC st.skip true m vv u); rw [← hl]; exact h9)
    unfold ev
    simp only [hl]
    rw [if_neg csg, if_neg c40, if_neg hA, if_neg hD]
    trivial
end
end Go.Proofs.YtdlimikcgdgfpaaGreatDoor.A03
namespace Go.Proofs.YtdlimikcgdgfpaaGreatDoor.A03
open Tryz renaming prog → PG
open E renaming preR → P1, postR → P2, w_join → P3, w_stop → P4, dsc → P5
open E Go.Lib
open Rp
theorem ev_rank_hi {look : Str → Int × Int} {f r : Nat} {st : ASt} (h : 10 < r) : ev look (f + 1) (.rank r) st = ev look f .opnd st := by
  conv => lhs; unfold ev
  rw [if_pos h]
theorem ev_rank_lo {look : Str → Int × Int} {f r : Nat} {st : ASt} (h : ¬ 10 < r) : ev look (f + 1) (.rank r) st = match ev look f (.rank (r + 1)) st with | none => none | some (a, s1) => ev look f (.loop r a) s1 := by
  conv => lhs; unfold ev
  rw [if_neg h]
  cases ev look f (.rank (r + 1)) st with
  | none => rfl
  | some q => rfl
theorem ev_loop_out {look : Str → Int × Int} {f r : Nat} {a : Int} {st : ASt} (h : ¬ rankOf (nextP st.skip.left) = r) : ev look (f + 1) (.loop r a) st = some (a, st.skip) := by
  conv => lhs; unfold ev
  simp only
  rw [if_neg (fun h2 => h h2.1)]
structure LoopI (B : Nat) (look : Str → Int × Int) (f r : Nat) (st : ASt) (b : Bool) (v : Int) (st1 : ASt) (b1 : Bool) : Prop where
  num : inI64 v
  over : st1.over = st.over
  lq : Lq B st st1
  bad : b = true → b1 = true
  gone : b1 = true → b = false → ev look (f + 1) (.rank r) st = none
  on : b1 = false → ∃ f', f' ≤ f ∧ needs (.loop r v) st1.left.length ≤ f' ∧ ev look (f + 1) (.rank r) st = ev look f' (.loop r v) st1
section
variable {X : Ce} {p m : Nat} {ops : List (Str × Value)} {vv : Value} {B : Nat} {look : Str → Int × Int} {g : Nat} {o : Go.Obj} {σ : AS} {k : Value → AS → Prop} {vars : List (Str × Str)}
theorem rank_one {op : Str} (h : rankOf op = 1) : op = [124, 124] := by
  unfold rankOf at h
  split at h <;> first | rfl | (exfalso; revert h; decide)
theorem rank_two {op : Str} (h : rankOf op = 2) : op = [38, 38] := by
  unfold rankOf at h
  split at h <;> first | rfl | (exfalso; revert h; decide)
theorem rank1_c {f0 r : Nat} (hr : r + 1 ≤ 11) (ih : AllC X p m ops vv B look g o f0) {RR : List Ck} {q1 q2 j1 j2 i : Nat} (hq1 : RR[j1]? = some (Cel q1 [pvw p])) (hq2 : RR[j2]? = some (Cel q2 [.int .i64 r])) (hgo : RR[i]? = some (Oth g o))
    {st2 : ASt} {u2 : Value} (hn : needs (.rank (r + 1)) st2.left.length ≤ f0) (hI : InvS B st2) (h : Hs σ X (WkR p m ops vv u2 st2 false RR))
    (hk : ∀ v st' b' u' σ', After B look f0 (.rank (r + 1)) st2 false v st' b' → Hs σ' X (WkR p m ops vv u' st' b' RR) → k (.int .i64 v) σ') :
    kCallv PG (.func (.func 265) #[] #[.pointer (some ⟨q1, 0, none⟩), .pointer (some ⟨q2, 0, none⟩)]) [] σ k := by
  refine callv_by (a := []) (b := [.pointer (some ⟨q1, 0, none⟩), .pointer (some ⟨q2, 0, none⟩)]) (by kernel_rfl) ?_
  refine f265 ?_
  have w1 := (h.front (j1 + 3) hq1).obj
  have w2 := (h.front (j2 + 3) hq2).obj
  have er : (r : Int) + 1 = ((r + 1 : Nat) : Int) := by omega
  (try simp -dsimp (disch := first|exact P5|fail) only [↓P1,P2,↓P4,Q1,Q2,Q3,Q4,Q5,Q6,Q7,Q8,Q9, F265, w1, w2, er])
  refine ih.2.2.1 (r + 1) (by omega) hr _ _ _ st2 false u2 i hn hI hgo h fun v st' b' u' σ' a h' => ?_
  (try simp -dsimp (disch := first|exact P5|fail) only [↓P1,P2,↓P4,Q1,Q2,Q3,Q4,Q5,Q6,Q7,Q8,Q9])
  exact hk v st' b' u' σ' a h'
theorem ev_loop_in {look : Str → Int × Int} {f r : Nat} {a : Int} {st : ASt} (h : rankOf (nextP st.skip.left) = r) (hr : ¬ r = 0) : ev look (f + 1) (.loop r a) st =
    match ev look f (.rank (r + 1)) ((st.skip.at (st.skip.left.drop (nextP st.skip.left).length)).pass (if r = 1 then decide (a = 0) else if r = 2 then decide (¬ a = 0) else true)) with
    | none => none
    | some (b, s2) =>
      if r = 1 then ev look f (.loop r (truthI (decide (¬ a = 0) || decide (¬ b = 0)))) (s2.un st.over)
      else if r = 2 then ev look f (.loop r (truthI (decide (¬ a = 0) && decide (¬ b = 0)))) (s2.un st.over)
      else ev look f (.loop r (doesP (nextP st.skip.left) a b (s2.un st.over)).1) (doesP (nextP st.skip.left) a b (s2.un st.over)).2 := by
  conv => lhs; unfold ev
  simp only
  rw [if_pos ⟨h, hr⟩]
  generalize ev look f (.rank (r + 1)) _ = e
  cases e with
  | none => rfl
  | some q => rfl
theorem rank_c {f r : Nat} (hr1 : 1 ≤ r) (hr : r ≤ 11) (hB : B ≤ 1000000) (hO : OpsOk X ops) (hE : ErrI X) (hV : VarsI X vv vars) (hL : LookI (lookV vars)) (ih : ∀ f0, f0 ≤ f → AllC X p m ops vv B (lookV vars) g o f0) : FnC X p m ops vv B (lookV vars) g o 232 [.int .i64 r] (.rank r) (f + 1) := by
  intro σ R k st b u i hf hI hg h hk
  refine f232 ?_
  have hlB := hI.n
  have h2 : Hs ((σ.new (.cells [pvw p])).new (.cells [.int .i64 r])) X (WkR p m ops vv u st b (Cel (σ.new (.cells [pvw p])).n [.int .i64 r] :: Cel σ.n [pvw p] :: R)) := (h.new (cs := [pvw p])).un3.new.un3
  (try simp -dsimp (disch := first|exact P5|fail) only [↓P1,P2,↓P4,Q1,Q2,Q3,Q4,Q5,Q6,Q7,Q8,Q9, F232])
  generalize (σ.new (.cells [pvw p])).new (.cells [.int .i64 r]) = s2 at h2 ⊢
  generalize (σ.new (.cells [pvw p])).n = q2 at h2 ⊢
  generalize σ.n = q1 at h2 ⊢
  have hg2 : (Cel q2 [.int .i64 r] :: Cel q1 [pvw p] :: R)[i + 2]? = some (Oth g o) := hg
  have w1 := h2.obj4
  have w2 := h2.obj3
  by_cases h10 : 10 < r
  · have h10' : 10 < (r : Int) := by omega
    refine join_now ?_
    (try simp -dsimp (disch := first|exact P5|fail) only [↓P1,P2,↓P4,Q1,Q2,Q3,Q4,Q5,Q6,Q7,Q8,Q9, w1, w2, h10'])
    refine (ih f (Nat.le_refl _)).2.2.2 _ _ _ st b u (i + 2) (by simp only [needs] at hf ⊢; omega) hI hg2 h2 fun v st' b' u' s3 a h3 => ?_
    (try simp -dsimp (disch := first|exact P5|fail) only [↓P1,P2,↓P4,Q1,Q2,Q3,Q4,Q5,Q6,Q7,Q8,Q9])
    refine hk v st' b' u' s3 ⟨a.num, a.over, a.lq, a.bad, fun hb => ?_⟩ ((h3.front 3 rfl).drop.front 3 rfl).drop
    rw [ev_rank_hi h10]
    exact a.ok hb
  have h10' : ¬ 10 < (r : Int) := by omega
  have er : (r : Int) + 1 = ((r + 1 : Nat) : Int) := by omega
  refine join_now ?_
  (try simp -dsimp (disch := first|exact P5|fail) only [↓P1,P2,↓P4,Q1,Q2,Q3,Q4,Q5,Q6,Q7,Q8,Q9, w1, w2, h10', er])
  refine (ih f (Nat.le_refl _)).2.2.1 (r + 1) (by omega) (by omega) _ _ _ st b u (i + 2) (by simp only [needs] at hf ⊢; omega) hI hg2 h2 fun v st1 b1 u1 s3 a h3 => ?_
  (try simp -dsimp (disch := first|exact P5|fail) only [↓P1,P2,↓P4,Q1,Q2,Q3,Q4,Q5,Q6,Q7,Q8,Q9])
  refine join_by fun J2 hJ2 => ?_
  have fin : ∀ (v : Int) st' b' u' s4, After B (lookV vars) (f + 1) (.rank r) st b v st' b' → Hs s4 X (WkR p m ops vv u' st' b' (Cel q2 [.int .i64 r] :: Cel q1 [pvw p] :: R)) → J2 [.int .i64 v] s4 := by
    intro v st' b' u' s4 a' h4
    refine hJ2 _ _ ?_
    (try simp -dsimp (disch := first|exact P5|fail) only [↓P1,P2,↓P4,Q1,Q2,Q3,Q4,Q5,Q6,Q7,Q8,Q9])
    exact hk v st' b' u' s4 a' ((h4.front 3 rfl).drop.front 3 rfl).drop
  clear hJ2
  (try simp -dsimp (disch := first|exact P5|fail) only [↓P1,P2,↓P4,Q1,Q2,Q3,Q4,Q5,Q6,Q7,Q8,Q9])
  refine loop_inv (fun nn xs s4 => ∃ v st1 b1 u1, xs = [.int .i64 v] ∧ LoopI B (lookV vars) f r st b v st1 b1 ∧ Hs s4 X (WkR p m ops vv u1 st1 b1 (Cel q2 [.int .i64 r] :: Cel q1 [pvw p] :: R)) ∧ nn = st1.left.length) _ ⟨v, st1, b1, u1, rfl, ⟨a.num, a.over, a.lq, a.bad, fun h1 h0 => ?_, fun h1 => ?_⟩, h3, rfl⟩ ?_
  · have h5 := a.ok h0
    rw [ev_rank_lo h10]
    cases he : ev (lookV vars) f (.rank (r + 1)) st with
    | none => rfl
    | some q =>
      rw [he] at h5
      obtain ⟨n, s5⟩ := q
      have := h5.2.2
      rw [h1] at this; cases this
  · have h0 : b = false := by
      cases b with
      | false => rfl
      | true => have := a.bad rfl; rw [h1] at this; cases this
    have h5 := a.ok h0
    have hl := a.lq.left
    refine ⟨f, Nat.le_refl _, by simp only [needs] at hf ⊢; omega, ?_⟩
    rw [ev_rank_lo h10]
    cases he : ev (lookV vars) f (.rank (r + 1)) st with
    | none => rw [he] at h5; have h5 : b1 = true := h5; rw [h1] at h5; cases h5
    | some q =>
      rw [he] at h5
      obtain ⟨n, s5⟩ := q
      obtain ⟨rfl, rfl, _⟩ := h5
      rfl
  clear hk a h3
  rintro _ _ s4 again ⟨v, st1, b1, u1, rfl, hI1, h4, rfl⟩ hag
  have w1 := h4.obj4
  have w2 := h4.obj3
  (try simp -dsimp (disch := first|exact P5|fail) only [↓P1,P2,↓P4,Q1,Q2,Q3,Q4,Q5,Q6,Q7,Q8,Q9])
  refine join_now ?_
  cases b1 with
  | true =>
    (try simp -dsimp (disch := first|exact P5|fail) only [↓P1,P2,↓P4,Q1,Q2,Q3,Q4,Q5,Q6,Q7,Q8,Q9, w1, h4.obj])
    exact fin _ _ _ _ _ ⟨hI1.num, hI1.over, hI1.lq, fun _ => rfl, fun h0 => by rw [hI1.gone rfl h0]⟩ h4
  | false =>
    have hb : b = false := by
      cases b with
      | false => rfl
      | true => have := hI1.bad rfl; cases this
    obtain ⟨f1, hf1, hn1, he1⟩ := hI1.on rfl
    obtain ⟨f2, rfl⟩ : ∃ f2, f1 = f2 + 1 := ⟨f1 - 1, by simp only [needs] at hn1; omega⟩
    have hl1 := hI1.lq.left
    (try simp -dsimp (disch := first|exact P5|fail) only [↓P1,P2,↓P4,Q1,Q2,Q3,Q4,Q5,Q6,Q7,Q8,Q9, w1, h4.obj])
    refine next_c hO (by omega) h4 fun s5 h5 => ?_
    have x1 := h5.obj4
    have x2 := h5.obj3
    obtain ⟨op, hop⟩ : ∃ op, op = nextP st1.skip.left := ⟨_, rfl⟩
    rw [← hop]
    (try simp -dsimp (disch := first|exact P5|fail) only [↓P1,P2,↓P4,Q1,Q2,Q3,Q4,Q5,Q6,Q7,Q8,Q9, x1, h5.obj])
    refine lk2_by (κ := Str) (k := op) (h5.front 2 rfl) Tryz.underlying216 Tryz.underlying9 zero_op ?_
    have out : ¬ rankOf op = r → ∀ s6, Hs s6 X (WkR p m ops vv u1 st1.skip false (Cel q2 [.int .i64 r] :: Cel q1 [pvw p] :: R)) → J2 [.int .i64 v] s6 := by
      intro hne s6 h6
      refine fin v st1.skip false u1 s6 ⟨hI1.num, hI1.over, hI1.lq.skip, fun h0 => (by rw [hb] at h0; cases h0), fun _ => ?_⟩ h6
      rw [he1, ev_loop_out (by rw [← hop]; exact hne)]
      exact ⟨rfl, rfl, rfl⟩
    have h6 : Hs _ X (Cel s5.n [Value.int .i64 0, Value.nilFunc] :: WkR p m ops vv u1 st1.skip false (Cel q2 [.int .i64 r] :: Cel q1 [pvw p] :: R)) := h5.new (cs := [Value.int .i64 0, Value.nilFunc])
    by_cases h0 : rankOf op = 0
    · have hno := hO.no _ h0
      unfold lkO at hno
      have h7 := h6.put (cs' := [Value.int .i64 0, Value.nilFunc])
      rw [hno]
      (try simp -dsimp (disch := first|exact P5|fail) only [↓P1,P2,↓P4,Q1,Q2,Q3,Q4,Q5,Q6,Q7,Q8,Q9, Option.getD_none, Option.isSome_none])
      refine join_now ?_
      (try simp -dsimp (disch := first|exact P5|fail) only [↓P1,P2,↓P4,Q1,Q2,Q3,Q4,Q5,Q6,Q7,Q8,Q9])
      exact out (by omega) _ h7.drop
    · obtain ⟨fv, fo1, fo2, _⟩ := hO.yes _ h0
      unfold lkO at fo1
      have h7 := h6.put (cs' := [Value.int .i64 (rankOf op), fv])
      have e2 : stS (s5.new (.cells [Value.int .i64 0, Value.nilFunc])) 2 (.pointer (some ⟨s5.n, 0, none⟩)) (.agg #[Value.int .i64 (rankOf op), fv]) = some ((s5.new (.cells [Value.int .i64 0, Value.nilFunc])).put s5.n (.cells [Value.int .i64 (rankOf op), fv])) := by
        have l2 : ([Value.int .i64 (rankOf op), fv] : List Value).all okCell = true := by simp [fo2]; rfl
        have ea : (#[Value.int .i64 (rankOf op), fv] : Array Value) = ([Value.int .i64 (rankOf op), fv] : List Value).toArray := rfl
        have e3 : ([Value.int .i64 (rankOf op), fv] : List Value).length = 2 := rfl
        rw [st_p, h6.obj, ea]
        refine (stN _ _ _ _ _ e3 l2).trans ?_
        rw [if_pos (by simp)]
        rfl
      rw [fo1]
      (try simp -dsimp (disch := first|exact P5|fail) only [↓P1,P2,↓P4,Q1,Q2,Q3,Q4,Q5,Q6,Q7,Q8,Q9, Option.getD_some, Option.isSome_some, ↓e2])
      generalize AS.put _ _ _ = s7 at h7 ⊢
      generalize s5.n = q3 at h7 ⊢
      refine join_by fun J5 hJ5 => ?_
      have y2 := h7.drop.obj3
      by_cases hrr : rankOf op = r
      rotate_left
      · have hrr' : ¬ (rankOf op : Int) = (r : Int) := by omega
        (try simp -dsimp (disch := first|exact P5|fail) only [↓P1,P2,↓P4,Q1,Q2,Q3,Q4,Q5,Q6,Q7,Q8,Q9, h7.obj, y2, hrr'])
        exact out hrr _ h7.drop
      · have hrr' : (rankOf op : Int) = (r : Int) := by omega
        (try simp -dsimp (disch := first|exact P5|fail) only [↓P1,P2,↓P4,Q1,Q2,Q3,Q4,Q5,Q6,Q7,Q8,Q9, h7.obj, y2, hrr'])
        refine hJ5 _ _ ?_
        clear hJ5
        have hsl : st1.skip.left.length ≤ st1.left.length := skip_len _
        have hop1 := rank_pos h0
        have hopl : op.length ≤ st1.skip.left.length := by rw [hop]; exact next_len _
        have etk : List.take (st1.skip.left.length - op.length) (st1.skip.left.drop op.length) = st1.skip.left.drop op.length := List.take_of_length_le (by rw [List.length_drop]; omega)
        have h8 : Hs (s7.put p (.cells [.string (bs (st1.skip.left.drop op.length)), .map (some m), vv, u1, .int .i64 st1.skip.over, .bool false, .int .i64 st1.skip.fell])) X (Cel q3 [.int .i64 (rankOf op), fv] :: WkR p m ops vv u1 (st1.skip.at (st1.skip.left.drop op.length)) false (Cel q2 [.int .i64 r] :: Cel q1 [pvw p] :: R)) := h7.put1
        have y1 := h7.drop.obj4
        (try simp -dsimp (disch := first|exact P5|fail) only [↓P1,P2,↓P4,Q1,Q2,Q3,Q4,Q5,Q6,Q7,Q8,Q9, y1, h7.obj1, etk])
        have h9 := h8.drop
        clear h8
        generalize AS.put _ _ _ = s8 at h9 ⊢
        have hlq2 : Lq B st (st1.skip.at (st1.skip.left.drop op.length)) := hI1.lq.skip.at (by rw [List.length_drop]; omega)
        have hd : (st1.skip.left.drop op.length).length + 1 ≤ st1.left.length := by rw [List.length_drop]; omega
        have hI2 : InvS B (st1.skip.at (st1.skip.left.drop op.length)) := hlq2.inv hI (Nat.le_of_eq hI1.over)
        have hei := ev_loop_in (look := lookV vars) (f := f2) (r := r) (a := v) (st := st1) (by rw [← hop]; exact hrr) (by omega)
        rw [← hop] at hei
        have hn2 : needs (.rank (r + 1)) (st1.skip.left.drop op.length).length ≤ f2 := by simp only [needs] at hn1 ⊢; omega
        by_cases o1 : op = [124, 124]
        · have hr_ : r = 1 := by rw [← hrr, o1]; rfl
          have z0 := h9.obj4
          have hsum := hI1.lq.sum
          have hov := hI1.over
          have hIp : InvS B ((st1.skip.at (st1.skip.left.drop op.length)).pass (decide (v = 0))) := .pass (by
            show st1.over + 1 + (st1.skip.left.drop op.length).length + st1.sets.length ≤ B
            omega) hI2.s
          have hlqp : Lq B st ((st1.skip.at (st1.skip.left.drop op.length)).pass (decide (v = 0))) := hlq2.same rfl rfl
          rw [if_pos hr_] at hei
          have p1 : (op = ([124, 124] : Str)) = True := eq_true o1
          (try simp -dsimp (disch := first|exact P5|fail) only [↓P1,P2,↓P4,Q1,Q2,Q3,Q4,Q5,Q6,Q7,Q8,Q9, p1, z0])
          refine pass_c (is := decide (v = 0)) (Q := fun w st3 b3 => After B (lookV vars) f2 (.rank (r + 1)) ((st1.skip.at (st1.skip.left.drop op.length)).pass (decide (v = 0))) false w st3 b3) (by show st1.over ≤ _; omega) h9 (fun σ1 q k1 g1 hk1 => rank1_c (by omega) (ih f2 (by omega)) (j1 := 2) (j2 := 1) (i := i + 3) rfl rfl hg hn2 hIp g1 hk1) (fun v st' b' a => a.over) fun w st3 b3 u3 s9 a3 g9 => ?_
          have a4 := a3.ok rfl
          have hdl' : st3.left.length ≤ (st1.skip.left.drop op.length).length := a3.lq.left
          have next : again [.int .i64 (truthI (decide (¬ v = 0) || decide (¬ w = 0)))] s9 := by
            refine hag _ _ _ ⟨_, st3.un st1.over, b3, u3, rfl, ⟨truth_in _, hI1.over, (hlqp.trans a3.lq).same rfl rfl, fun h => (by rw [hb] at h; cases h), fun hb3 _ => ?_, fun hb3 => ?_⟩, g9, rfl⟩ (by show st3.left.length < _; omega)
            · rw [he1, hei]
              cases hq : ev (lookV vars) f2 (.rank (r + 1)) ((st1.skip.at (st1.skip.left.drop op.length)).pass (decide (v = 0))) with
              | none => rfl
              | some q =>
                rw [hq] at a4
                obtain ⟨n, s5⟩ := q
                have := a4.2.2
                rw [hb3] at this; cases this
            · refine ⟨f2, by omega, by show needs _ st3.left.length ≤ _; simp only [needs] at hn1 ⊢; omega, ?_⟩
              rw [he1, hei]
              cases hq : ev (lookV vars) f2 (.rank (r + 1)) ((st1.skip.at (st1.skip.left.drop op.length)).pass (decide (v = 0))) with
              | none => rw [hq] at a4; have a4 : b3 = true := a4; rw [hb3] at a4; cases a4
              | some q =>
                rw [hq] at a4
                obtain ⟨n, s5⟩ := q
                obtain ⟨rfl, rfl, _⟩ := a4
                simp only [if_pos hr_]
          by_cases hv0 : v = 0
          · simp only [hv0, not_true, decide_false, Bool.false_or, Bool.false_and] at next
            (try simp -dsimp (disch := first|exact P5|fail) only [↓P1,P2,↓P4,Q1,Q2,Q3,Q4,Q5,Q6,Q7,Q8,Q9, hv0])
            refine yes_c ?_
            (try simp -dsimp (disch := first|exact P5|fail) only [↓P1,P2,↓P4,Q1,Q2,Q3,Q4,Q5,Q6,Q7,Q8,Q9])
            first
              | exact next
              | (rw [show (!decide (w = 0)) = decide (¬ w = 0) from (by simp)]; exact next)
          · simp only [hv0, not_false_eq_true, decide_true, Bool.true_or, Bool.true_and] at next
            (try simp -dsimp (disch := first|exact P5|fail) only [↓P1,P2,↓P4,Q1,Q2,Q3,Q4,Q5,Q6,Q7,Q8,Q9, hv0])
            refine yes_c ?_
            (try simp -dsimp (disch := first|exact P5|fail) only [↓P1,P2,↓P4,Q1,Q2,Q3,Q4,Q5,Q6,Q7,Q8,Q9])
            first
              | exact next
              | (rw [show (!decide (w = 0)) = decide (¬ w = 0) from (by simp)]; exact next)
        by_cases o2 : op = [38, 38]
        · have hr_ : r = 2 := by rw [← hrr, o2]; rfl
          have z0 := h9.obj4
          have hsum := hI1.lq.sum
          have hov := hI1.over
          have hIp : InvS B ((st1.skip.at (st1.skip.left.drop op.length)).pass (decide (¬ v = 0))) := .pass (by
            show st1.over + 1 + (st1.skip.left.drop op.length).length + st1.sets.length ≤ B
            omega) hI2.s
          have hlqp : Lq B st ((st1.skip.at (st1.skip.left.drop op.length)).pass (decide (¬ v = 0))) := hlq2.same rfl rfl
          rw [if_neg (show ¬ r = 1 by omega), if_pos hr_] at hei
          have p2 : (op = ([38, 38] : Str)) = True := eq_true o2
          (try simp -dsimp (disch := first|exact P5|fail) only [↓P1,P2,↓P4,Q1,Q2,Q3,Q4,Q5,Q6,Q7,Q8,Q9, o1, p2, z0])
          try rw [show (!decide (v = 0)) = decide (¬ v = 0) from (by simp)]
          refine pass_c (is := decide (¬ v = 0)) (Q := fun w st3 b3 => After B (lookV vars) f2 (.rank (r + 1)) ((st1.skip.at (st1.skip.left.drop op.length)).pass (decide (¬ v = 0))) false w st3 b3) (by show st1.over ≤ _; omega) h9 (fun σ1 q k1 g1 hk1 => rank1_c (by omega) (ih f2 (by omega)) (j1 := 2) (j2 := 1) (i := i + 3) rfl rfl hg hn2 hIp g1 hk1) (fun v st' b' a => a.over) fun w st3 b3 u3 s9 a3 g9 => ?_
          have a4 := a3.ok rfl
          have hdl' : st3.left.length ≤ (st1.skip.left.drop op.length).length := a3.lq.left
          have next : again [.int .i64 (truthI (decide (¬ v = 0) && decide (¬ w = 0)))] s9 := by
            refine hag _ _ _ ⟨_, st3.un st1.over, b3, u3, rfl, ⟨truth_in _, hI1.over, (hlqp.trans a3.lq).same rfl rfl, fun h => (by rw [hb] at h; cases h), fun hb3 _ => ?_, fun hb3 => ?_⟩, g9, rfl⟩ (by show st3.left.length < _; omega)
            · rw [he1, hei]
              cases hq : ev (lookV vars) f2 (.rank (r + 1)) ((st1.skip.at (st1.skip.left.drop op.length)).pass (decide (¬ v = 0))) with
              | none => rfl
              | some q =>
                rw [hq] at a4
                obtain ⟨n, s5⟩ := q
                have := a4.2.2
                rw [hb3] at this; cases this
            · refine ⟨f2, by omega, by show needs _ st3.left.length ≤ _; simp only [needs] at hn1 ⊢; omega, ?_⟩
              rw [he1, hei]
              cases hq : ev (lookV vars) f2 (.rank (r + 1)) ((st1.skip.at (st1.skip.left.drop op.length)).pass (decide (¬ v = 0))) with
              | none => rw [hq] at a4; have a4 : b3 = true := a4; rw [hb3] at a4; cases a4
              | some q =>
                rw [hq] at a4
                obtain ⟨n, s5⟩ := q
                obtain ⟨rfl, rfl, _⟩ := a4
                simp only [if_neg (show ¬ r = 1 by omega), if_pos hr_]
          by_cases hv0 : v = 0
          · simp only [hv0, not_true, decide_false, Bool.false_or, Bool.false_and] at next
            (try simp -dsimp (disch := first|exact P5|fail) only [↓P1,P2,↓P4,Q1,Q2,Q3,Q4,Q5,Q6,Q7,Q8,Q9, hv0])
            refine yes_c ?_
            (try simp -dsimp (disch := first|exact P5|fail) only [↓P1,P2,↓P4,Q1,Q2,Q3,Q4,Q5,Q6,Q7,Q8,Q9])
            first
              | exact next
              | (rw [show (!decide (w = 0)) = decide (¬ w = 0) from (by simp)]; exact next)
          · simp only [hv0, not_false_eq_true, decide_true, Bool.true_or, Bool.true_and] at next
            (try simp -dsimp (disch := first|exact P5|fail) only [↓P1,P2,↓P4,Q1,Q2,Q3,Q4,Q5,Q6,Q7,Q8,Q9, hv0])
            refine yes_c ?_
            (try simp -dsimp (disch := first|exact P5|fail) only [↓P1,P2,↓P4,Q1,Q2,Q3,Q4,Q5,Q6,Q7,Q8,Q9])
            first
              | exact next
              | (rw [show (!decide (w = 0)) = decide (¬ w = 0) from (by simp)]; exact next)
        have r1 : ¬ r = 1 := fun e => o1 (rank_one (by omega))
        have r2 : ¬ r = 2 := fun e => o2 (rank_two (by omega))
        rw [if_neg r1, if_neg r2] at hei
        have ep : (st1.skip.at (st1.skip.left.drop op.length)).pass true = st1.skip.at (st1.skip.left.drop op.length) := rfl
        rw [ep] at hei
        (try simp -dsimp (disch := first|exact P5|fail) only [↓P1,P2,↓P4,Q1,Q2,Q3,Q4,Q5,Q6,Q7,Q8,Q9, o1, o2])
        refine rank1_c (by omega) (ih f2 (by omega)) (j1 := 1) (j2 := 0) (i := i + 2) rfl rfl hg hn2 hI2 h9 fun w st3 b3 u3 s9 a3 g9 => ?_
        have z1 := g9.obj4
        (try simp -dsimp (disch := first|exact P5|fail) only [↓P1,P2,↓P4,Q1,Q2,Q3,Q4,Q5,Q6,Q7,Q8,Q9, z1])
        refine does_c hO h0 (by omega) (by omega) hI1.num a3.num g9 fun s10 g10 => ?_
        have ho3 : st3.over = st1.over := a3.over
        have eun : st3.un st1.over = st3 := by rw [← ho3]; rfl
        have hdl := a3.lq.left
        have hdl' : st3.left.length ≤ (st1.skip.left.drop op.length).length := hdl
        have dk : (doesB op v w st3 b3).2.over = st3.over ∧ (doesB op v w st3 b3).2.left = st3.left ∧ (doesB op v w st3 b3).2.sets = st3.sets ∧ inI64 (doesB op v w st3 b3).1 := by
          unfold doesB
          split
          · exact ⟨rfl, rfl, rfl, by unfold inI64; omega⟩
          · exact does_ok op st3 hI1.num a3.num
        have a4 := a3.ok rfl
        (try simp -dsimp (disch := first|exact P5|fail) only [↓P1,P2,↓P4,Q1,Q2,Q3,Q4,Q5,Q6,Q7,Q8,Q9])
        refine hag _ _ _ ⟨_, _, b3, u3, rfl, ⟨dk.2.2.2, by rw [dk.1, ho3, hI1.over], (hlq2.trans a3.lq).same dk.2.1 dk.2.2.1, fun h => (by rw [hb] at h; cases h), fun hb3 _ => ?_, fun hb3 => ?_⟩, g10, rfl⟩ (by rw [dk.2.1]; omega)
        · rw [he1, hei]
          cases hq : ev (lookV vars) f2 (.rank (r + 1)) (st1.skip.at (st1.skip.left.drop op.length)) with
          | none => rfl
          | some q =>
            rw [hq] at a4
            obtain ⟨n, s5⟩ := q
            have := a4.2.2
            rw [hb3] at this; cases this
        · refine ⟨f2, by omega, by rw [dk.2.1]; simp only [needs] at hn1 ⊢; omega, ?_⟩
          rw [he1, hei]
          cases hq : ev (lookV vars) f2 (.rank (r + 1)) (st1.skip.at (st1.skip.left.drop op.length)) with
          | none => rw [hq] at a4; have a4 : b3 = true := a4; rw [hb3] at a4; cases a4
          | some q =>
            rw [hq] at a4
            obtain ⟨n, s5⟩ := q
            obtain ⟨rfl, rfl, _⟩ := a4
            simp only [if_neg r1, if_neg r2]
            rw [eun, hb3]
            rfl
end
end Go.Proofs.YtdlimikcgdgfpaaGreatDoor.A03
namespace Go.Proofs.YtdlimikcgdgfpaaGreatDoor.A03
open Tryz renaming prog → PG
open E renaming preR → P1, postR → P2, w_join → P3, w_stop → P4, dsc → P5
open E Go.Lib
open Rp
theorem ev_choice_none {look : Str → Int × Int} {f : Nat} {st : ASt} (h : ev look f (.rank 1) st = none) : ev look (f + 1) .choice st = none := by
  unfold ev
  rw [h]
theorem ev_choice_out {look : Str → Int × Int} {f : Nat} {st s1 : ASt} {c : Int} (h : ev look f (.rank 1) st = some (c, s1)) (hn : ∀ t, ¬ skipB s1.left = 63 :: t) : ev look (f + 1) .choice st = some (c, s1.skip) := by
  unfold ev
  rw [h]
  simp only
  all_goals first
    | done
    | (split
       · rename_i t ht; exact absurd ht (hn t)
       · rfl)
theorem ev_choice_in {look : Str → Int × Int} {f : Nat} {st s1 : ASt} {c : Int} {t : Str} (h : ev look f (.rank 1) st = some (c, s1)) (ht : skipB s1.left = 63 :: t) : ev look (f + 1) .choice st =
    match ev look f .set ((s1.at t).pass (decide (¬ c = 0))) with
    | none => none
    | some (a, s2) => match skipB s2.left with
      | 58 :: t2 => (match ev look f .choice (((s2.un s1.over).at t2).pass (decide (c = 0))) with
        | none => none
        | some (b, s3) => some (if c = 0 then b else a, s3.un s1.over))
      | _ => none := by
  conv => lhs; unfold ev
  rw [h]
  simp only [ht]
  generalize ev look f .set _ = e
  cases e with
  | none => rfl
  | some q => rfl
section
variable {X : Ce} {p m : Nat} {ops : List (Str × Value)} {vv : Value} {B : Nat} {look : Str → Int × Int} {g : Nat} {o : Go.Obj} {σ : AS} {k : Value → AS → Prop} {vars : List (Str × Str)}
theorem choice_c {f : Nat} (hB : B ≤ 1000000) (hO : OpsOk X ops) (hE : ErrI X) (hV : VarsI X vv vars) (hL : LookI (lookV vars)) (ih : ∀ f0, f0 ≤ f → AllC X p m ops vv B (lookV vars) g o f0) : FnC X p m ops vv B (lookV vars) g o 192 [] .choice (f + 1) := by
  intro σ R k st b u i hf hI hg h hk
  refine f192 ?_
  have hlB := hI.n
  (try simp -dsimp (disch := first|exact P5|fail) only [↓P1,P2,↓P4,Q1,Q2,Q3,Q4,Q5,Q6,Q7,Q8,Q9, F192])
  refine (ih f (Nat.le_refl _)).2.2.1 1 (by omega) (by omega) _ _ _ st b u i (by simp only [needs] at hf ⊢; omega) hI hg h fun v s1 b1 u1 s3 a h3 => ?_
  have hl1 := a.lq.left
  (try simp -dsimp (disch := first|exact P5|fail) only [↓P1,P2,↓P4,Q1,Q2,Q3,Q4,Q5,Q6,Q7,Q8,Q9])
  refine join_by fun J1 hJ1 => ?_
  (try simp -dsimp (disch := first|exact P5|fail) only [↓P1,P2,↓P4,Q1,Q2,Q3,Q4,Q5,Q6,Q7,Q8,Q9])
  refine next_c hO (by omega) h3 fun s4 h4 => ?_
  have gone : b1 = true → b = false → ev (lookV vars) (f + 1) .choice st = none := by
    intro hb1 hb
    have h5 := a.ok hb
    cases he : ev (lookV vars) f (.rank 1) st with
    | none => exact ev_choice_none he
    | some q =>
      rw [he] at h5
      obtain ⟨n, s5⟩ := q
      have := h5.2.2
      rw [hb1] at this; cases this
  by_cases h63 : nextP s1.skip.left = [63]
  · cases b1 with
    | true =>
      (try simp -dsimp (disch := first|exact P5|fail) only [↓P1,P2,↓P4,Q1,Q2,Q3,Q4,Q5,Q6,Q7,Q8,Q9, h63, h4.obj])
      refine hk v s1.skip true u1 s4 ⟨a.num, a.over, a.lq.skip, fun _ => rfl, fun hb => ?_⟩ h4
      rw [gone rfl hb]
    | false =>
      obtain ⟨t, ht⟩ := (next_one (.inr (.inl rfl)) _).1 h63
      have o4 : s4.m p = some (.cells [.string (bs (63 :: t)), .map (some m), vv, u1, .int .i64 s1.skip.over, .bool false, .int .i64 s1.skip.fell]) := by rw [← ht]; exact h4.obj
      have et : List.take (t.length + 1 - 1) t = t := List.take_of_length_le (by omega)
      have ht' : skipB s1.left = 63 :: t := ht
      have htl := cons_skip ht'
      have h5 : Hs (s4.put p (.cells [.string (bs t), .map (some m), vv, u1, .int .i64 s1.skip.over, .bool false, .int .i64 s1.skip.fell])) X (WkR p m ops vv u1 (s1.skip.at t) false R) := h4.put
      (try simp -dsimp (disch := first|exact P5|fail) only [↓P1,P2,↓P4,Q1,Q2,Q3,Q4,Q5,Q6,Q7,Q8,Q9, h63, o4])
      refine hJ1 _ _ ?_
      clear hJ1
      (try simp -dsimp (disch := first|exact P5|fail) only [↓P1,P2,↓P4,Q1,Q2,Q3,Q4,Q5,Q6,Q7,Q8,Q9, o4, et])
      generalize AS.put _ _ _ = s5 at h5 ⊢
      try rw [show (!decide (v = 0)) = decide (¬ v = 0) from (by simp)]
      have hsum := a.lq.sum
      have hov := a.over
      have lq1 : Lq B st (s1.skip.at t) := a.lq.skip.at (by rw [ht]; simp)
      have hIp : InvS B ((s1.skip.at t).pass (decide (¬ v = 0))) := .pass (by
        show s1.over + 1 + t.length + s1.sets.length ≤ B
        omega) a.lq.s
      have lqp : Lq B st ((s1.skip.at t).pass (decide (¬ v = 0))) := lq1.same rfl rfl
      refine pass_c (is := decide (¬ v = 0)) (Q := fun w st3 b3 => After B (lookV vars) f .set ((s1.skip.at t).pass (decide (¬ v = 0))) false w st3 b3) (by show s1.over ≤ _; omega) h5 (fun σ1 q k1 g1 hk1 => callv_by (a := [pvw p]) (b := []) (by kernel_rfl) ((ih f (Nat.le_refl _)).1 _ _ _ ((s1.skip.at t).pass (decide (¬ v = 0))) false u1 (i + 1) (by show needs _ t.length ≤ f; simp only [needs] at hf ⊢; omega) hIp hg g1 hk1)) (fun v st' b' a => a.over) fun w s6 b6 u6 s7 a6 h6 => ?_
      have ea : b = false → ev (lookV vars) f (.rank 1) st = some (v, s1) := by
        intro hb
        have h7 := a.ok hb
        cases he : ev (lookV vars) f (.rank 1) st with
        | none => rw [he] at h7; have h7 : false = true := h7; cases h7
        | some q =>
          rw [he] at h7
          obtain ⟨n, s5'⟩ := q
          obtain ⟨rfl, rfl, _⟩ := h7
          rfl
      have hb : b = false := by
        cases b with
        | false => rfl
        | true => have := a.bad rfl; cases this
      have he := ev_choice_in (ea hb) ht'
      have hl6 := a6.lq.left
      have hl6' : s6.left.length ≤ t.length := hl6
      have a6ok := a6.ok rfl
      have lq6 : Lq B st (s6.un s1.over) := (lqp.trans a6.lq).same rfl rfl
      (try simp -dsimp (disch := first|exact P5|fail) only [↓P1,P2,↓P4,Q1,Q2,Q3,Q4,Q5,Q6,Q7,Q8,Q9])
      refine next_c hO (by show s6.left.length ≤ _; omega) h6 fun s8 h8 => ?_
      by_cases h58 : nextP (s6.un s1.over).skip.left = [58]
      · obtain ⟨t2, ht2⟩ := (next_one (.inr (.inr rfl)) _).1 h58
        have h58' : nextP ((s6.un (s1.skip.at t).over).skip).left = [58] := h58
        have ht2' : skipB s6.left = 58 :: t2 := ht2
        have ht2l := cons_skip ht2'
        have o8 : s8.m p = some (.cells [.string (bs (58 :: t2)), .map (some m), vv, u6, .int .i64 (s6.un s1.over).skip.over, .bool b6, .int .i64 s6.fell]) := by rw [← ht2]; exact h8.obj
        have et2 : List.take (t2.length + 1 - 1) t2 = t2 := List.take_of_length_le (by omega)
        have h9 : Hs (s8.put p (.cells [.string (bs t2), .map (some m), vv, u6, .int .i64 (s6.un s1.over).skip.over, .bool b6, .int .i64 s6.fell])) X (WkR p m ops vv u6 ((s6.un s1.over).skip.at t2) b6 R) := h8.put
        (try simp -dsimp (disch := first|exact P5|fail) only [↓P1,P2,↓P4,Q1,Q2,Q3,Q4,Q5,Q6,Q7,Q8,Q9, h58', o8, et2])
        generalize AS.put _ _ _ = s9 at h9 ⊢
        have hs6 := a6.lq.sum
        have hs6' : s6.left.length + s6.sets.length ≤ t.length + s1.sets.length := hs6
        have hIq : InvS B (((s6.un s1.over).skip.at t2).pass (decide (v = 0))) := .pass (by
          show s1.over + 1 + t2.length + s6.sets.length ≤ B
          omega) a6.lq.s
        have lqq : Lq B st (((s6.un s1.over).skip.at t2).pass (decide (v = 0))) := (lq6.skip.at (l := t2) (by rw [ht2]; simp)).same rfl rfl
        refine pass_c (is := decide (v = 0)) (Q := fun x s10 b10 => After B (lookV vars) f .choice (((s6.un s1.over).skip.at t2).pass (decide (v = 0))) b6 x s10 b10) (by show s1.over ≤ _; omega) h9 (fun σ1 q k1 g1 hk1 => callv_by (a := [pvw p]) (b := []) (by kernel_rfl) ((ih f (Nat.le_refl _)).2.1 _ _ _ (((s6.un s1.over).skip.at t2).pass (decide (v = 0))) b6 u6 (i + 1) (by show needs _ t2.length ≤ f; simp only [needs] at hf ⊢; omega) hIq hg g1 hk1)) (fun v st' b' a => a.over) fun x s10 b10 u10 s11 a10 h10 => ?_
        have aft : ∀ y : Int, y = (if v = 0 then x else w) → After B (lookV vars) (f + 1) .choice st b y (s10.un s1.over) b10 := by
          intro y hy
          refine ⟨by rw [hy]; split; exact a10.num; exact a6.num, a.over, (lqq.trans a10.lq).same rfl rfl, fun h => absurd h (by rw [hb]; decide), fun _ => ?_⟩
          rw [he]
          cases hq : ev (lookV vars) f .set ((s1.skip.at t).pass (decide (¬ v = 0))) with
          | none =>
            have hq' : ev (lookV vars) f .set ((s1.at t).pass (decide (¬ v = 0))) = none := hq
            rw [hq] at a6ok
            rw [hq']
            exact a10.bad a6ok
          | some q =>
            rw [hq] at a6ok
            obtain ⟨n, s5'⟩ := q
            obtain ⟨rfl, rfl, rfl⟩ := a6ok
            have hq' : ev (lookV vars) f .set ((s1.at t).pass (decide (¬ v = 0))) = some (w, s6) := hq
            rw [hq']
            simp only [ht2']
            have a10ok := a10.ok rfl
            cases hr : ev (lookV vars) f .choice (((s6.un s1.over).skip.at t2).pass (decide (v = 0))) with
            | none =>
              have hr' : ev (lookV vars) f .choice (((s6.un s1.over).at t2).pass (decide (v = 0))) = none := hr
              rw [hr] at a10ok
              simp only [hr']
              exact a10ok
            | some q =>
              rw [hr] at a10ok
              obtain ⟨n, s5'⟩ := q
              obtain ⟨rfl, rfl, h10b⟩ := a10ok
              have hr' : ev (lookV vars) f .choice (((s6.un s1.over).at t2).pass (decide (v = 0))) = some (x, s10) := hr
              simp only [hr']
              exact ⟨hy, trivial, h10b⟩
        by_cases hv0 : v = 0
        · (try simp -dsimp (disch := first|exact P5|fail) only [↓P1,P2,↓P4,Q1,Q2,Q3,Q4,Q5,Q6,Q7,Q8,Q9])
          refine join_now ?_
          (try simp -dsimp (disch := first|exact P5|fail) only [↓P1,P2,↓P4,Q1,Q2,Q3,Q4,Q5,Q6,Q7,Q8,Q9, hv0])
          exact hk _ _ _ _ _ (aft x (by rw [if_pos hv0])) h10
        · (try simp -dsimp (disch := first|exact P5|fail) only [↓P1,P2,↓P4,Q1,Q2,Q3,Q4,Q5,Q6,Q7,Q8,Q9])
          refine join_now ?_
          (try simp -dsimp (disch := first|exact P5|fail) only [↓P1,P2,↓P4,Q1,Q2,Q3,Q4,Q5,Q6,Q7,Q8,Q9, hv0])
          exact hk _ _ _ _ _ (aft w (by rw [if_neg hv0])) h10
      · have h9 := h8.put (cs' := wkC (s6.un s1.over).skip true m vv u6)
        have h58' : ¬ nextP ((s6.un (s1.skip.at t).over).skip).left = [58] := h58
        (try simp -dsimp (disch := first|exact P5|fail) only [↓P1,P2,↓P4,Q1,Q2,Q3,Q4,Q5,Q6,Q7,Q8,Q9, h58', h8.obj])
        refine hk 0 (s6.un s1.over).skip true u6 _ ⟨by unfold inI64; omega, a.over, lq6.skip, fun h => absurd h (by rw [hb]; decide), fun _ => ?_⟩ h9
        rw [he]
        have hno : ∀ t2, ¬ skipB s6.left = 58 :: t2 := fun t2 h => h58 ((next_one (.inr (.inr rfl)) _).2 ⟨t2, h⟩)
        cases hq : ev (lookV vars) f .set ((s1.skip.at t).pass (decide (¬ v = 0))) with
        | none =>
          have hq' : ev (lookV vars) f .set ((s1.at t).pass (decide (¬ v = 0))) = none := hq
          rw [hq']
        | some q =>
          rw [hq] at a6ok
          obtain ⟨n, s5'⟩ := q
          obtain ⟨rfl, rfl, _⟩ := a6ok
          have hq' : ev (lookV vars) f .set ((s1.at t).pass (decide (¬ v = 0))) = some (w, s6) := hq
          rw [hq']
          simp only
          all_goals first
            | done
            | (split
               · rename_i t2 h; exact absurd h (hno t2)
               · rfl)
  · have hno : ∀ t, ¬ skipB s1.left = 63 :: t := fun t ht => h63 ((next_one (.inr (.inl rfl)) _).2 ⟨t, ht⟩)
    (try simp -dsimp (disch := first|exact P5|fail) only [↓P1,P2,↓P4,Q1,Q2,Q3,Q4,Q5,Q6,Q7,Q8,Q9, h63, h4.obj])
    refine hk v s1.skip b1 u1 s4 ⟨a.num, a.over, a.lq.skip, a.bad, fun hb => ?_⟩ h4
    have h5 := a.ok hb
    cases he : ev (lookV vars) f (.rank 1) st with
    | none => rw [he] at h5; rw [ev_choice_none he]; exact h5
    | some q =>
      rw [he] at h5
      obtain ⟨n, s5⟩ := q
      obtain ⟨rfl, rfl, rfl⟩ := h5
      rw [ev_choice_out he hno]
      exact ⟨rfl, rfl, rfl⟩
end
end Go.Proofs.YtdlimikcgdgfpaaGreatDoor.A03
namespace Go.Proofs.YtdlimikcgdgfpaaGreatDoor.A03
open Tryz renaming prog → PG
open E renaming preR → P1, postR → P2, w_join → P3, w_stop → P4, dsc → P5
open E Go.Lib
open Rp
theorem ev_set_in {look : Str → Int × Int} {f n : Nat} {s0 : ASt} {op : Str} (hn : frontF 0 s0.skip.left = n) (h0 : ¬ n = 0) (ho : nextP (skipB (s0.skip.left.drop n)) = op) (ha : asgn op = true) : ev look (f + 1) .set s0 =
    match ev look f .set (s0.skip.at ((skipB (s0.skip.left.drop n)).drop op.length)) with
    | none => none
    | some (v, s2) =>
      let r := if op = [61] then (v, s2) else doesP (op.take 1) (askP look s2 (s0.skip.left.take n)).1 v (askP look s2 (s0.skip.left.take n)).2
      some (r.1, pushP r.2 (s0.skip.left.take n) r.1) := by
  subst hn
  subst ho
  conv => lhs; unfold ev
  simp only
  rw [if_pos ⟨h0, ha⟩]
  generalize ev look f .set _ = e
  cases e with
  | none => rfl
  | some q => rfl
theorem ev_set_out {look : Str → Int × Int} {f : Nat} {s0 : ASt} (h : ¬ (frontF 0 s0.skip.left ≠ 0 ∧ asgn (nextP (skipB (s0.skip.left.drop (frontF 0 s0.skip.left)))) = true)) : ev look (f + 1) .set s0 = ev look f .choice s0.skip := by
  conv => lhs; unfold ev
  simp only
  rw [if_neg h]
theorem asgn_cases {op : Str} (h : asgn op = true) : op = [61] ∨ ∃ c, op = [c, 61] ∧ (c = 43 ∨ c = 45 ∨ c = 42 ∨ c = 47 ∨ c = 37) := by
  unfold asgn at h
  split at h
  · exact .inl rfl
  · exact .inr ⟨_, rfl, by simp⟩
  · exact .inr ⟨_, rfl, by simp⟩
  · exact .inr ⟨_, rfl, by simp⟩
  · exact .inr ⟨_, rfl, by simp⟩
  · exact .inr ⟨_, rfl, by simp⟩
  · cases h
theorem asgn_six (op : Str) : asgn op = (decide (op = [43, 61]) || (decide (op = [45, 61]) || (decide (op = [42, 61]) || (decide (op = [47, 61]) || (decide (op = [37, 61]) || decide (op = [61])))))) := by
  cases h : asgn op with
  | true =>
    rcases asgn_cases h with rfl | ⟨c, rfl, hc⟩
    · rfl
    · rcases hc with rfl | rfl | rfl | rfl | rfl <;> rfl
  | false =>
    symm
    simp only [Bool.or_eq_false_iff, decide_eq_false_iff_not]
    refine ⟨?_, ?_, ?_, ?_, ?_, ?_⟩ <;> (rintro rfl; cases h)
section
variable {X : Ce} {p m : Nat} {ops : List (Str × Value)} {vv : Value} {B : Nat} {look : Str → Int × Int} {g : Nat} {o : Go.Obj} {σ : AS} {k : Value → AS → Prop} {vars : List (Str × Str)}
theorem set_c {f : Nat} (hB : B ≤ 1000000) (T : VarAt PG "internal/strconv.uint64pow10" g o powV) (hO : OpsOk X ops) (hE : ErrI X) (hV : VarsI X vv vars) (hL : LookI (lookV vars)) (ih : ∀ f0, f0 ≤ f → AllC X p m ops vv B (lookV vars) g o f0) : FnC X p m ops vv B (lookV vars) g o 135 [] .set (f + 1) := by
  intro σ R k st b u i hf hI hg h hk
  refine f135 ?_
  have hlB := hI.n
  (try simp -dsimp (disch := first|exact P5|fail) only [↓P1,P2,↓P4,Q1,Q2,Q3,Q4,Q5,Q6,Q7,Q8,Q9, F135])
  refine skip_c (by omega) h fun w0 s1 h1 => ?_
  have lq0 : Lq B st st.skip := (Lq.refl hI.s).skip
  have hsl : st.skip.left.length ≤ st.left.length := skip_len _
  obtain ⟨n, hn⟩ : ∃ n, n = frontF 0 st.skip.left := ⟨_, rfl⟩
  have hfl : n ≤ st.skip.left.length := by rw [hn]; exact front_le _ _
  (try simp -dsimp (disch := first|exact P5|fail) only [↓P1,P2,↓P4,Q1,Q2,Q3,Q4,Q5,Q6,Q7,Q8,Q9, h1.obj])
  refine front_c (by unfold maxLen; omega) ?_
  rw [← hn]
  have out : ¬ (n ≠ 0 ∧ asgn (nextP (skipB (st.skip.left.drop n))) = true) → ∀ (s2 : AS) (u2 : Value), Hs s2 X (WkR p m ops vv u2 st.skip b R) → kCall PG 192 [pvw p] s2 k := by
    intro hno s2 u2 h2
    refine (ih f (Nat.le_refl _)).2.1 _ _ _ st.skip b u2 i (by show needs _ st.skip.left.length ≤ f; simp only [needs] at hf ⊢; omega) (lq0.inv hI (Nat.le_refl _)) hg h2 fun v st' b' u' s3 a h3 => ?_
    refine hk v st' b' u' s3 ⟨a.num, a.over, lq0.trans a.lq, a.bad, fun hb => ?_⟩ h3
    rw [ev_set_out (by rw [← hn]; exact hno)]
    exact a.ok hb
  have o1 := h1.obj
  have etl : (st.skip.left.take n).length = n := by rw [List.length_take]; omega
  (try simp -dsimp (disch := first|exact P5|fail) only [↓P1,P2,↓P4,Q1,Q2,Q3,Q4,Q5,Q6,Q7,Q8,Q9, o1])
  refine join_by fun J1 hJ1 => ?_
  by_cases h0 : n = 0
  · subst h0
    (try simp -dsimp (disch := first|exact P5|fail) only [↓P1,P2,↓P4,Q1,Q2,Q3,Q4,Q5,Q6,Q7,Q8,Q9, List.take_zero])
    have := out (fun h => h.1 rfl) _ _ h1
    exact this
  have hne : ¬ (st.skip.left.take n) = [] := by intro e; rw [e] at etl; exact h0 etl.symm
  (try simp -dsimp (disch := first|exact P5|fail) only [↓P1,P2,↓P4,Q1,Q2,Q3,Q4,Q5,Q6,Q7,Q8,Q9, hne])
  refine hJ1 _ _ ?_
  clear hJ1
  have etk : List.take (st.skip.left.length - n) (st.skip.left.drop n) = st.skip.left.drop n := List.take_of_length_le (by rw [List.length_drop]; omega)
  have h2 : Hs (s1.put p (.cells [.string (bs (st.skip.left.drop n)), .map (some m), vv, u, .int .i64 st.skip.over, .bool b, .int .i64 st.skip.fell])) X (WkR p m ops vv u (st.skip.at (st.skip.left.drop n)) b R) := h1.put
  (try simp -dsimp (disch := first|exact P5|fail) only [↓P1,P2,↓P4,Q1,Q2,Q3,Q4,Q5,Q6,Q7,Q8,Q9, o1, etl, etk])
  generalize AS.put _ _ _ = s2 at h2 ⊢
  refine next_c hO (by show (st.skip.left.drop n).length ≤ _; rw [List.length_drop]; omega) h2 fun s3 h3 => ?_
  obtain ⟨rest, hrest⟩ : ∃ r, r = skipB (st.skip.left.drop n) := ⟨_, rfl⟩
  have esk : (st.skip.at (st.skip.left.drop n)).skip = st.skip.at rest := by rw [hrest]; rfl
  rw [esk] at h3 ⊢
  have eat : (st.skip.at rest).left = rest := rfl
  rw [eat]
  obtain ⟨op, hop⟩ : ∃ op, op = nextP rest := ⟨_, rfl⟩
  rw [← hop]
  (try simp -dsimp (disch := first|exact P5|fail) only [↓P1,P2,↓P4,Q1,Q2,Q3,Q4,Q5,Q6,Q7,Q8,Q9])
  refine join_by fun J2 hJ2 => ?_
  (try simp -dsimp (disch := first|exact P5|fail) only [↓P1,P2,↓P4,Q1,Q2,Q3,Q4,Q5,Q6,Q7,Q8,Q9])
  refine join_by fun J5 hJ5 => ?_
  have fin : asgn op = true → J2 [] s3 := by
    intro ha
    refine hJ2 _ _ ?_
    clear hJ5
    have hap := asgn_pos ha
    have hnl : op.length ≤ rest.length := by rw [hop]; exact next_len _
    have hnn := name_next (l := st.skip.left) (n := n) h0 (by rw [← hrest, ← hop]; exact hap.1)
    rw [← hrest, ← hop] at hnn
    have eto : List.take (rest.length - op.length) (rest.drop op.length) = rest.drop op.length := List.take_of_length_le (by rw [List.length_drop]; omega)
    have h4 : Hs (s3.put p (.cells [.string (bs (rest.drop op.length)), .map (some m), vv, u, .int .i64 st.skip.over, .bool b, .int .i64 st.skip.fell])) X (WkR p m ops vv u (st.skip.at (rest.drop op.length)) b R) := h3.put
    have o3 : s3.m p = some (.cells [.string (bs rest), .map (some m), vv, u, .int .i64 st.skip.over, .bool b, .int .i64 st.skip.fell]) := h3.obj
    (try simp -dsimp (disch := first|exact P5|fail) only [↓P1,P2,↓P4,Q1,Q2,Q3,Q4,Q5,Q6,Q7,Q8,Q9, o3, eto])
    generalize AS.put _ _ _ = s4 at h4 ⊢
    have lqa : Lq B st (st.skip.at (rest.drop op.length)) := lq0.at (by omega)
    refine (ih f (Nat.le_refl _)).1 _ _ _ (st.skip.at (rest.drop op.length)) b u i (by show needs _ (rest.drop op.length).length ≤ f; simp only [needs] at hf ⊢; omega) (lqa.inv hI (Nat.le_refl _)) hg h4 fun v st2 b2 u2 s5 a h5 => ?_
    (try simp -dsimp (disch := first|exact P5|fail) only [↓P1,P2,↓P4,Q1,Q2,Q3,Q4,Q5,Q6,Q7,Q8,Q9])
    refine join_by fun J3 hJ3 => ?_
    have hnl2 : (st.skip.left.take n).length ≤ B := by rw [etl]; omega
    have hl2 : st2.left.length ≤ (rest.drop op.length).length := a.lq.left
    have hsum2 : st2.left.length + st2.sets.length ≤ (rest.drop op.length).length + st.sets.length := a.lq.sum
    have lq2 : Lq B st st2 := lqa.trans a.lq
    have fin : ∀ (r : Int × ASt) (s6 : AS), r.2.over = st2.over → r.2.left = st2.left → r.2.sets = st2.sets → inI64 r.1 → (b2 = false → r = if op = [61] then (v, st2) else doesP (op.take 1) (askP (lookV vars) st2 (st.skip.left.take n)).1 v (askP (lookV vars) st2 (st.skip.left.take n)).2) →
        Hs s6 X (WkR p m ops vv u2 r.2 b2 R) → J3 [.int .i64 r.1] s6 := by
      intro r s6 r1 r2 r3 r4 r5 h6
      refine hJ3 _ _ ?_
      clear hJ3
      (try simp -dsimp (disch := first|exact P5|fail) only [↓P1,P2,↓P4,Q1,Q2,Q3,Q4,Q5,Q6,Q7,Q8,Q9])
      refine join_by fun J4 hJ4 => ?_
      have tail : ∀ (u3 : Value) (s7 : AS), Hs s7 X (WkR p m ops vv u3 (if b2 = true then r.2 else pushP r.2 (st.skip.left.take n) r.1) b2 R) → J4 [] s7 := by
        intro u3 s7 h7
        refine hJ4 _ _ ?_
        (try simp -dsimp (disch := first|exact P5|fail) only [↓P1,P2,↓P4,Q1,Q2,Q3,Q4,Q5,Q6,Q7,Q8,Q9])
        have hpo := push_ok (st := st) (s := r.2) (name := st.skip.left.take n) (v := r.1) (lq2.same r2 r3) hnl2 r4 (by rw [r2, r3]; omega)
        refine hk r.1 (if b2 = true then r.2 else pushP r.2 (st.skip.left.take n) r.1) b2 u3 s7 ⟨r4, ?_, ?_, a.bad, fun hb => ?_⟩ h7
        · split
          · rw [r1]; exact a.over
          · rw [hpo.2, r1]; exact a.over
        · split
          · exact lq2.same r2 r3
          · exact hpo.1
        · have a4 := a.ok hb
          rw [ev_set_in hn.symm h0 (by rw [← hrest, ← hop]) ha, ← hrest]
          cases hq : ev (lookV vars) f .set (st.skip.at (rest.drop op.length)) with
          | none => rw [hq] at a4; exact a4
          | some q =>
            rw [hq] at a4
            obtain ⟨n4, s4'⟩ := q
            obtain ⟨rfl, rfl, hb2⟩ := a4
            subst hb2
            have := r5 rfl
            simp only [← this]
            exact ⟨trivial, rfl, trivial⟩
      clear hJ4
      (try simp -dsimp (disch := first|exact P5|fail) only [↓P1,P2,↓P4,Q1,Q2,Q3,Q4,Q5,Q6,Q7,Q8,Q9])
      refine live_c h6 ?_
      cases hlv : r.2.live && !b2 with
      | false =>
        have e : (if b2 = true then r.2 else pushP r.2 (st.skip.left.take n) r.1) = r.2 := by
          cases b2 with
          | true => rfl
          | false =>
            rw [Bool.not_false, Bool.and_true] at hlv
            rw [if_neg (by decide)]
            unfold pushP
            rw [hlv, if_neg (by decide)]
        rw [e] at tail
        (try simp -dsimp (disch := first|exact P5|fail) only [↓P1,P2,↓P4,Q1,Q2,Q3,Q4,Q5,Q6,Q7,Q8,Q9])
        exact tail _ _ h6
      | true =>
        obtain ⟨hlv1, hb2⟩ := Bool.and_eq_true_iff.1 hlv
        have hb2 : b2 = false := by simpa using hb2
        subst hb2
        have e : (if false = true then r.2 else pushP r.2 (st.skip.left.take n) r.1) = { r.2 with sets := r.2.sets ++ [(st.skip.left.take n, r.1)] } := by
          rw [if_neg (by decide)]
          unfold pushP
          rw [if_pos hlv1]
        rw [e] at tail
        (try simp -dsimp (disch := first|exact P5|fail) only [↓P1,P2,↓P4,Q1,Q2,Q3,Q4,Q5,Q6,Q7,Q8,Q9, h6.obj])
        refine text_c T r4 (i + 3) h6 hg fun s7 h7 => ?_
        have hsl7 : (setsT r.2).length ≤ 1000000 := by
          rw [List.length_map, r3]; omega
        have hit := itoa_len r4
        have hm1 : (st.skip.left.take n).length ≤ maxLen := by unfold maxLen; omega
        have hm2 : (itoa r.1).length ≤ maxLen := by unfold maxLen; omega
        have g7 := (h7.new (cs := [Value.string (bs (st.skip.left.take n)), Value.string (bs (itoa r.1))])).obj1
        (try simp -dsimp (disch := first|exact P5|fail) only [↓P1,P2,↓P4,Q1,Q2,Q3,Q4,Q5,Q6,Q7,Q8,Q9, h7.obj, g7])
        refine push_by h7.swap (e := 182) (bytes := 32) (by kernel_rfl) (by kernel_rfl) (a := (st.skip.left.take n, itoa r.1)) (news := [.string (bs (st.skip.left.take n)), .string (bs (itoa r.1))]) ⟨[.string (bs (st.skip.left.take n))], [.string (bs (itoa r.1))], rfl, ⟨rfl, hm1⟩, ⟨rfl, hm2⟩⟩ (by omega) (by unfold maxLen; omega) fun u3 s8 h8 => ?_
        have em : setsT r.2 ++ [(st.skip.left.take n, itoa r.1)] = setsT { r.2 with sets := r.2.sets ++ [(st.skip.left.take n, r.1)] } := by
          show _ = List.map _ (r.2.sets ++ [(st.skip.left.take n, r.1)])
          rw [List.map_append]
          rfl
        rw [em] at h8
        obtain ⟨ux, uc, rfl, _⟩ := h8.own
        have h9 : Hs (s8.put p (.cells [.string (bs r.2.left), .map (some m), vv, .slice ux (setsT { r.2 with sets := r.2.sets ++ [(st.skip.left.take n, r.1)] }).length uc, .int .i64 r.2.over, .bool false, .int .i64 r.2.fell])) X (WkR p m ops vv _ { r.2 with sets := r.2.sets ++ [(st.skip.left.take n, r.1)] } false R) := h8.swap.put
        (try simp -dsimp (disch := first|exact P5|fail) only [↓P1,P2,↓P4,Q1,Q2,Q3,Q4,Q5,Q6,Q7,Q8,Q9, h8.swap.obj])
        exact tail _ _ h9
    clear hJ3
    by_cases e6 : op = [61]
    · have p6 : (op = ([61] : Str)) = True := eq_true e6
      (try simp -dsimp (disch := first|exact P5|fail) only [↓P1,P2,↓P4,Q1,Q2,Q3,Q4,Q5,Q6,Q7,Q8,Q9, p6])
      exact fin (v, st2) _ rfl rfl rfl a.num (fun _ => by rw [if_pos e6]) h5
    · obtain ⟨c, hc1, hc2⟩ : ∃ c, op = [c, 61] ∧ (c = 43 ∨ c = 45 ∨ c = 42 ∨ c = 47 ∨ c = 37) := by
        rcases asgn_cases ha with h | h
        · exact absurd h e6
        · exact h
      have hl1 : op.length = 2 := by rw [hc1]; rfl
      have ht1 : op.take 1 = [c] := by rw [hc1]; rfl
      have hrk : ¬ rankOf [c] = 0 ∧ ¬ rankOf [c] = 1 ∧ ¬ rankOf [c] = 2 := by
        rcases hc2 with rfl | rfl | rfl | rfl | rfl <;> decide
      (try simp -dsimp (disch := first|exact P5|fail) only [↓P1,P2,↓P4,Q1,Q2,Q3,Q4,Q5,Q6,Q7,Q8,Q9, e6, hl1, ht1])
      refine ask_c (B := B) hV hE a.lq.s h5 fun s6 h6 => ?_
      have hask : (askB (lookV vars) st2 b2 (st.skip.left.take n)).2.over = st2.over ∧ (askB (lookV vars) st2 b2 (st.skip.left.take n)).2.left = st2.left ∧ (askB (lookV vars) st2 b2 (st.skip.left.take n)).2.sets = st2.sets ∧ inI64 (askB (lookV vars) st2 b2 (st.skip.left.take n)).1 := by
        unfold askB
        split
        · exact ⟨rfl, rfl, rfl, by unfold inI64; omega⟩
        · exact ask_ok hL a.lq.s _
      have heq : b2 = false → askB (lookV vars) st2 b2 (st.skip.left.take n) = askP (lookV vars) st2 (st.skip.left.take n) := fun h => by rw [h]; rfl
      generalize askB (lookV vars) st2 b2 (st.skip.left.take n) = qa at h6 hask heq ⊢
      obtain ⟨a1, sa⟩ := qa
      obtain ⟨k1, k2, k3, k4⟩ := hask
      (try simp -dsimp (disch := first|exact P5|fail) only [↓P1,P2,↓P4,Q1,Q2,Q3,Q4,Q5,Q6,Q7,Q8,Q9])
      refine does_c hO hrk.1 hrk.2.1 hrk.2.2 k4 a.num h6 fun s7 h7 => ?_
      have dk : (doesB [c] a1 v sa b2).2.over = sa.over ∧ (doesB [c] a1 v sa b2).2.left = sa.left ∧ (doesB [c] a1 v sa b2).2.sets = sa.sets ∧ inI64 (doesB [c] a1 v sa b2).1 := by
        unfold doesB
        split
        · exact ⟨rfl, rfl, rfl, by unfold inI64; omega⟩
        · exact does_ok [c] sa k4 a.num
      (try simp -dsimp (disch := first|exact P5|fail) only [↓P1,P2,↓P4,Q1,Q2,Q3,Q4,Q5,Q6,Q7,Q8,Q9])
      refine fin (doesB [c] a1 v sa b2) _ (dk.1.trans k1) (dk.2.1.trans k2) (dk.2.2.1.trans k3) dk.2.2.2 (fun hb2 => ?_) h7
      rw [if_neg e6, ht1, ← heq hb2, hb2]
      rfl
  clear hJ2
  have yes_ : asgn op = true → J5 [.bool true] s3 := by
    intro ha
    refine hJ5 _ _ ?_
    (try simp -dsimp (disch := first|exact P5|fail) only [↓P1,P2,↓P4,Q1,Q2,Q3,Q4,Q5,Q6,Q7,Q8,Q9])
    exact fin ha
  have no_ : asgn op = false → J5 [.bool false] s3 := by
    intro ha
    refine hJ5 _ _ ?_
    have h4 := h3.put (cs' := wkC st.skip b m vv u)
    (try simp -dsimp (disch := first|exact P5|fail) only [↓P1,P2,↓P4,Q1,Q2,Q3,Q4,Q5,Q6,Q7,Q8,Q9, h3.obj])
    exact out (fun h => by rw [← hrest, ← hop, ha] at h; cases h.2) _ _ h4
  clear hJ5 fin
  have six := asgn_six op
  by_cases e1 : op = [43, 61]
  · have pe : (op = ([43, 61] : Str)) = True := eq_true e1
    (try simp -dsimp (disch := first|exact P5|fail) only [↓P1,P2,↓P4,Q1,Q2,Q3,Q4,Q5,Q6,Q7,Q8,Q9, pe])
    exact yes_ (by rw [e1]; rfl)
  by_cases e2 : op = [45, 61]
  · have pe : (op = ([45, 61] : Str)) = True := eq_true e2
    (try simp -dsimp (disch := first|exact P5|fail) only [↓P1,P2,↓P4,Q1,Q2,Q3,Q4,Q5,Q6,Q7,Q8,Q9, e1, pe])
    exact yes_ (by rw [e2]; rfl)
  by_cases e3 : op = [42, 61]
  · have pe : (op = ([42, 61] : Str)) = True := eq_true e3
    (try simp -dsimp (disch := first|exact P5|fail) only [↓P1,P2,↓P4,Q1,Q2,Q3,Q4,Q5,Q6,Q7,Q8,Q9, e1, e2, pe])
    exact yes_ (by rw [e3]; rfl)
  by_cases e4 : op = [47, 61]
  · have pe : (op = ([47, 61] : Str)) = True := eq_true e4
    (try simp -dsimp (disch := first|exact P5|fail) only [↓P1,P2,↓P4,Q1,Q2,Q3,Q4,Q5,Q6,Q7,Q8,Q9, e1, e2, e3, pe])
    exact yes_ (by rw [e4]; rfl)
  by_cases e5 : op = [37, 61]
  · have pe : (op = ([37, 61] : Str)) = True := eq_true e5
    (try simp -dsimp (disch := first|exact P5|fail) only [↓P1,P2,↓P4,Q1,Q2,Q3,Q4,Q5,Q6,Q7,Q8,Q9, e1, e2, e3, e4, pe])
    exact yes_ (by rw [e5]; rfl)
  rw [decide_eq_false e1, decide_eq_false e2, decide_eq_false e3, decide_eq_false e4, decide_eq_false e5] at six
  simp only [Bool.false_or] at six
  (try simp -dsimp (disch := first|exact P5|fail) only [↓P1,P2,↓P4,Q1,Q2,Q3,Q4,Q5,Q6,Q7,Q8,Q9, e1, e2, e3, e4, e5])
  rw [← six]
  cases ha : asgn op with
  | true => exact yes_ ha
  | false => exact no_ ha
end
end Go.Proofs.YtdlimikcgdgfpaaGreatDoor.A03
namespace Go.Proofs.YtdlimikcgdgfpaaGreatDoor.A03
open Tryz renaming prog → PG
open E renaming preR → P1, postR → P2, w_join → P3, w_stop → P4, dsc → P5
open E Go.Lib
open Rp
theorem needs_pos {md : Md} {L : Nat} (h : ∀ r, md = .rank r → r ≤ 11) : ¬ needs md L ≤ 0 := by
  cases md with
  | rank r => have := h r rfl; simp only [needs]; omega
  | _ => simp only [needs]; omega
theorem all_c {X : Ce} {p m : Nat} {ops : List (Str × Value)} {vv : Value} {B : Nat} {g : Nat} {o : Go.Obj} {vars : List (Str × Str)} (hB : B ≤ 1000000) (T : VarAt PG "internal/strconv.uint64pow10" g o powV) (hO : OpsOk X ops) (hE : ErrI X) (hV : VarsI X vv vars) (hL : LookI (lookV vars)) :
    ∀ f n, n ≤ f → AllC X p m ops vv B (lookV vars) g o n := by
  intro f
  induction f with
  | zero =>
    intro n hn
    have : n = 0 := by omega
    subst this
    exact ⟨fun σ R k st b u i h => absurd h (needs_pos fun r h => by cases h), fun σ R k st b u i h => absurd h (needs_pos fun r h => by cases h), fun r _ hr σ R k st b u i h => absurd h (needs_pos fun r h => by cases h; exact hr), fun σ R k st b u i h => absurd h (needs_pos fun r h => by cases h)⟩
  | succ f ih =>
    intro n hn
    by_cases h : n ≤ f
    · exact ih n h
    · have : n = f + 1 := by omega
      subst this
      exact ⟨set_c hB T hO hE hV hL ih, choice_c hB hO hE hV hL ih, fun r h1 h2 => rank_c h1 h2 hB hO hE hV hL ih, opnd_c hB hO hE hV hL (ih f (Nat.le_refl _))⟩
theorem and_v (a b : Int) : binV .and (.int .i64 a) (.int .i64 b) = some (.int .i64 (bI .and a b)) := rfl
theorem and_b (a b : Int) : bI .and a b = IntKind.i64.wrap ((BitVec.ofInt 64 a &&& BitVec.ofInt 64 b).toNat : Int) := rfl
theorem and63 (b : Int) : binV .and (.int .i64 b) (.int .i64 63) = some (.int .i64 (b % 64)) := by
  have e : (BitVec.ofInt 64 b &&& BitVec.ofInt 64 63).toNat = (b % ((2 ^ 64 : Nat) : Int)).toNat % 64 := by
    rw [BitVec.toNat_and, show (BitVec.ofInt 64 63).toNat = 2 ^ 6 - 1 from by decide, Nat.and_two_pow_sub_one_eq_mod, BitVec.toNat_ofInt]
  have e2 : bI .and b 63 = b % 64 := by
    rw [and_b, e, IntKind.wrap_i64]
    omega
  rw [and_v, e2]
theorem or_v (a b : Int) : binV .or (.int .i64 a) (.int .i64 b) = some (.int .i64 (bI .or a b)) := rfl
theorem xor_v (a b : Int) : binV .xor (.int .i64 a) (.int .i64 b) = some (.int .i64 (bI .xor a b)) := rfl
theorem shl_v (a b : Int) : sftV .shl (.int .i64 a) (.int .i64 (b % 64)) = some (.int .i64 (shI .shl a b)) := by
  have h : ¬ b % 64 < 0 := by omega
  unfold shI
  simp only [sftV, shV, if_neg h]
theorem shr_v (a b : Int) : sftV .shr (.int .i64 a) (.int .i64 (b % 64)) = some (.int .i64 (shI .shr a b)) := by
  have h : ¬ b % 64 < 0 := by omega
  unfold shI
  simp only [sftV, shV, if_neg h]
abbrev fv0 (fn : Nat) : Value := .func (.func fn) #[] #[]
section
variable {X : Ce} {σ : AS} {R : List Ck} {k : Value → AS → Prop} {q q2 fn : Nat} {op : Str}
def Two (op : Str) (fn : Nat) : Prop := ∀ (σ : AS) (a b : Int) (k : Value → AS → Prop), inI64 a → inI64 b → k (.int .i64 (doP op a b).1) σ → kCall PG fn [.int .i64 a, .int .i64 b] σ k
theorem plain_ok (hc : X q 0 = some (fv0 fn)) (hf : okFn PG fn = true) (h2 : ∀ a b, (doP op a b).2 = 0) (hfn : Two op fn) : FnOk X op (.func (.func 229) #[] #[pvw q]) := by
  intro σ R a b k ha hb h hk
  refine callv_by (a := []) (b := [pvw q]) (by kernel_rfl) ?_
  refine f229 ?_
  have g1 := h.ldx hc
  have hk2 := hk σ h
  rw [h2] at hk2
  (try simp -dsimp (disch := first|exact P5|fail) only [↓P1,P2,↓P4,Q1,Q2,Q3,Q4,Q5,Q6,Q7,Q8,Q9, F229, g1])
  refine callv_by (a := []) (b := []) hf (hfn _ _ _ _ ha hb ?_)
  (try simp -dsimp (disch := first|exact P5|fail) only [↓P1,P2,↓P4,Q1,Q2,Q3,Q4,Q5,Q6,Q7,Q8,Q9])
  exact hk2
theorem over_ok {least : Int} (hc : X q 0 = some (fv0 fn)) (hc2 : X q2 0 = some (.int .i64 least)) (hf : okFn PG fn = true)
    (h0 : ∀ a, doP op a 0 = (0, 13)) (hl : doP op lowI (-1) = (least, 0)) (h2 : ∀ a b, ¬ b = 0 → ¬ (a = lowI ∧ b = -1) → (doP op a b).2 = 0)
    (hfn : ∀ (σ : AS) (a b : Int) (k : Value → AS → Prop), inI64 a → inI64 b → ¬ b = 0 → ¬ (a = lowI ∧ b = -1) → k (.int .i64 (doP op a b).1) σ → kCall PG fn [.int .i64 a, .int .i64 b] σ k) : FnOk X op (.func (.func 230) #[] #[pvw q2, pvw q]) := by
  intro σ R a b k ha hb h hk
  refine callv_by (a := []) (b := [pvw q2, pvw q]) (by kernel_rfl) ?_
  refine f230 ?_
  have g1 := h.ldx hc
  have g2 := h.ldx hc2
  have hk2 := hk σ h
  (try simp -dsimp (disch := first|exact P5|fail) only [↓P1,P2,↓P4,Q1,Q2,Q3,Q4,Q5,Q6,Q7,Q8,Q9, F230])
  refine join_by fun J1 hJ1 => ?_
  by_cases hb0 : b = 0
  · subst hb0
    rw [h0] at hk2
    (try simp -dsimp (disch := first|exact P5|fail) only [↓P1,P2,↓P4,Q1,Q2,Q3,Q4,Q5,Q6,Q7,Q8,Q9])
    exact hk2
  have go : ¬ (a = lowI ∧ b = -1) → J1 [] σ := by
    intro hn
    rw [h2 a b hb0 hn] at hk2
    refine hJ1 _ _ ?_
    (try simp -dsimp (disch := first|exact P5|fail) only [↓P1,P2,↓P4,Q1,Q2,Q3,Q4,Q5,Q6,Q7,Q8,Q9, g1])
    refine callv_by (a := []) (b := []) hf (hfn _ _ _ _ ha hb hb0 hn ?_)
    (try simp -dsimp (disch := first|exact P5|fail) only [↓P1,P2,↓P4,Q1,Q2,Q3,Q4,Q5,Q6,Q7,Q8,Q9])
    exact hk2
  clear hJ1
  by_cases hal : a = lowI
  · by_cases hbl : b = -1
    · subst hal
      subst hbl
      rw [hl] at hk2
      have e : (lowI = -9223372036854775808) = True := eq_true rfl
      (try simp -dsimp (disch := first|exact P5|fail) only [↓P1,P2,↓P4,Q1,Q2,Q3,Q4,Q5,Q6,Q7,Q8,Q9, e, g2])
      exact hk2
    · have e : (a = -9223372036854775808) = True := eq_true hal
      (try simp -dsimp (disch := first|exact P5|fail) only [↓P1,P2,↓P4,Q1,Q2,Q3,Q4,Q5,Q6,Q7,Q8,Q9, hb0, e, hbl])
      exact go (fun h => hbl h.2)
  · have e : ¬ a = -9223372036854775808 := hal
    (try simp -dsimp (disch := first|exact P5|fail) only [↓P1,P2,↓P4,Q1,Q2,Q3,Q4,Q5,Q6,Q7,Q8,Q9, hb0, e])
    exact go (fun h => hal h.1)
theorem two_or : Two [124] 173 := fun σ a b k ha hb hk => by
  refine f173 ?_
  (try simp -dsimp (disch := first|exact P5|fail) only [↓P1,P2,↓P4,Q1,Q2,Q3,Q4,Q5,Q6,Q7,Q8,Q9, F173, or_v])
  exact hk
theorem two_xor : Two [94] 174 := fun σ a b k ha hb hk => by
  refine f174 ?_
  (try simp -dsimp (disch := first|exact P5|fail) only [↓P1,P2,↓P4,Q1,Q2,Q3,Q4,Q5,Q6,Q7,Q8,Q9, F174, xor_v])
  exact hk
theorem two_and : Two [38] 175 := fun σ a b k ha hb hk => by
  refine f175 ?_
  (try simp -dsimp (disch := first|exact P5|fail) only [↓P1,P2,↓P4,Q1,Q2,Q3,Q4,Q5,Q6,Q7,Q8,Q9, F175, and_v])
  exact hk
theorem two_eq : Two [61, 61] 176 := fun σ a b k ha hb hk => by
  refine f176 ?_
  (try simp -dsimp (disch := first|exact P5|fail) only [↓P1,P2,↓P4,Q1,Q2,Q3,Q4,Q5,Q6,Q7,Q8,Q9, F176])
  refine yes_c ?_
  (try simp -dsimp (disch := first|exact P5|fail) only [↓P1,P2,↓P4,Q1,Q2,Q3,Q4,Q5,Q6,Q7,Q8,Q9])
  exact hk
theorem two_ne : Two [33, 61] 178 := fun σ a b k ha hb hk => by
  refine f178 ?_
  (try simp -dsimp (disch := first|exact P5|fail) only [↓P1,P2,↓P4,Q1,Q2,Q3,Q4,Q5,Q6,Q7,Q8,Q9, F178])
  refine yes_c ?_
  (try simp -dsimp (disch := first|exact P5|fail) only [↓P1,P2,↓P4,Q1,Q2,Q3,Q4,Q5,Q6,Q7,Q8,Q9])
  first
    | exact hk
    | (rw [show (!decide (a = b)) = decide (¬ a = b) from (by simp)]; exact hk)
theorem two_lt : Two [60] 179 := fun σ a b k ha hb hk => by
  refine f179 ?_
  (try simp -dsimp (disch := first|exact P5|fail) only [↓P1,P2,↓P4,Q1,Q2,Q3,Q4,Q5,Q6,Q7,Q8,Q9, F179])
  refine yes_c ?_
  (try simp -dsimp (disch := first|exact P5|fail) only [↓P1,P2,↓P4,Q1,Q2,Q3,Q4,Q5,Q6,Q7,Q8,Q9])
  exact hk
theorem two_le : Two [60, 61] 180 := fun σ a b k ha hb hk => by
  refine f180 ?_
  (try simp -dsimp (disch := first|exact P5|fail) only [↓P1,P2,↓P4,Q1,Q2,Q3,Q4,Q5,Q6,Q7,Q8,Q9, F180])
  refine yes_c ?_
  (try simp -dsimp (disch := first|exact P5|fail) only [↓P1,P2,↓P4,Q1,Q2,Q3,Q4,Q5,Q6,Q7,Q8,Q9])
  exact hk
theorem two_gt : Two [62] 181 := fun σ a b k ha hb hk => by
  refine f181 ?_
  (try simp -dsimp (disch := first|exact P5|fail) only [↓P1,P2,↓P4,Q1,Q2,Q3,Q4,Q5,Q6,Q7,Q8,Q9, F181])
  refine yes_c ?_
  (try simp -dsimp (disch := first|exact P5|fail) only [↓P1,P2,↓P4,Q1,Q2,Q3,Q4,Q5,Q6,Q7,Q8,Q9])
  exact hk
theorem two_ge : Two [62, 61] 182 := fun σ a b k ha hb hk => by
  refine f182 ?_
  (try simp -dsimp (disch := first|exact P5|fail) only [↓P1,P2,↓P4,Q1,Q2,Q3,Q4,Q5,Q6,Q7,Q8,Q9, F182])
  refine yes_c ?_
  (try simp -dsimp (disch := first|exact P5|fail) only [↓P1,P2,↓P4,Q1,Q2,Q3,Q4,Q5,Q6,Q7,Q8,Q9])
  exact hk
theorem two_shl : Two [60, 60] 183 := fun σ a b k ha hb hk => by
  refine f183 ?_
  (try simp -dsimp (disch := first|exact P5|fail) only [↓P1,P2,↓P4,Q1,Q2,Q3,Q4,Q5,Q6,Q7,Q8,Q9, F183, and63, shl_v])
  exact hk
theorem two_shr : Two [62, 62] 184 := fun σ a b k ha hb hk => by
  refine f184 ?_
  (try simp -dsimp (disch := first|exact P5|fail) only [↓P1,P2,↓P4,Q1,Q2,Q3,Q4,Q5,Q6,Q7,Q8,Q9, F184, and63, shr_v])
  exact hk
theorem two_add : Two [43] 185 := fun σ a b k ha hb hk => by
  refine f185 ?_
  (try simp -dsimp (disch := first|exact P5|fail) only [↓P1,P2,↓P4,Q1,Q2,Q3,Q4,Q5,Q6,Q7,Q8,Q9, F185])
  exact hk
theorem two_sub : Two [45] 186 := fun σ a b k ha hb hk => by
  refine f186 ?_
  (try simp -dsimp (disch := first|exact P5|fail) only [↓P1,P2,↓P4,Q1,Q2,Q3,Q4,Q5,Q6,Q7,Q8,Q9, F186])
  exact hk
theorem two_mul : Two [42] 187 := fun σ a b k ha hb hk => by
  refine f187 ?_
  (try simp -dsimp (disch := first|exact P5|fail) only [↓P1,P2,↓P4,Q1,Q2,Q3,Q4,Q5,Q6,Q7,Q8,Q9, F187])
  exact hk
theorem do_quo {a b : Int} : doP [47] a b = if b = 0 then (0, 13) else if a = lowI ∧ b = -1 then (lowI, 0) else (wI (a.tdiv b), 0) := rfl
theorem do_rem {a b : Int} : doP [37] a b = if b = 0 then (0, 13) else if a = lowI ∧ b = -1 then (0, 0) else (a.tmod b, 0) := rfl
theorem quo_ok (hc : X q 0 = some (fv0 189)) (hc2 : X q2 0 = some (.int .i64 (-9223372036854775808))) : FnOk X [47] (.func (.func 230) #[] #[pvw q2, pvw q]) := by
  refine over_ok hc hc2 (by kernel_rfl) (fun a => by rw [do_quo, if_pos rfl]) (by rw [do_quo, if_neg (by decide), if_pos ⟨rfl, rfl⟩]; rfl) (fun a b h1 h2 => by rw [do_quo, if_neg h1, if_neg h2]) fun σ a b k ha hb h1 h2 hk => ?_
  rw [do_quo, if_neg h1, if_neg h2] at hk
  refine f189 ?_
  (try simp -dsimp (disch := first|exact P5|fail) only [↓P1,P2,↓P4,Q1,Q2,Q3,Q4,Q5,Q6,Q7,Q8,Q9, F189, h1])
  exact hk
theorem rem_ok (hc : X q 0 = some (fv0 190)) (hc2 : X q2 0 = some (.int .i64 0)) : FnOk X [37] (.func (.func 230) #[] #[pvw q2, pvw q]) := by
  refine over_ok hc hc2 (by kernel_rfl) (fun a => by rw [do_rem, if_pos rfl]) (by rw [do_rem, if_neg (by decide), if_pos ⟨rfl, rfl⟩]) (fun a b h1 h2 => by rw [do_rem, if_neg h1, if_neg h2]) fun σ a b k ha hb h1 h2 hk => ?_
  rw [do_rem, if_neg h1, if_neg h2] at hk
  refine f190 ?_
  (try simp -dsimp (disch := first|exact P5|fail) only [↓P1,P2,↓P4,Q1,Q2,Q3,Q4,Q5,Q6,Q7,Q8,Q9, F190, h1])
  exact hk
end
end Go.Proofs.YtdlimikcgdgfpaaGreatDoor.A03
namespace Go.Proofs.YtdlimikcgdgfpaaGreatDoor.A03
open Tryz renaming prog → PG
open E renaming preR → P1, postR → P2, w_join → P3, w_stop → P4, dsc → P5
open E Go.Lib
open Rp
abbrev opL (v1 v2 v3 v4 v5 v6 v7 v8 v9 v10 v11 v12 v13 v14 v15 v16 v17 v18 : Value) : List (Str × Value) := [([124, 124], .agg #[.int .i64 1, v1]), ([38, 38], .agg #[.int .i64 2, v2]), ([124], .agg #[.int .i64 3, v3]), ([94], .agg #[.int .i64 4, v4]), ([38], .agg #[.int .i64 5, v5]), ([61, 61], .agg #[.int .i64 6, v6]), ([33, 61], .agg #[.int .i64 6, v7]), ([60], .agg #[.int .i64 7, v8]), ([60, 61], .agg #[.int .i64 7, v9]), ([62], .agg #[.int .i64 7, v10]), ([62, 61], .agg #[.int .i64 7, v11]), ([60, 60], .agg #[.int .i64 8, v12]), ([62, 62], .agg #[.int .i64 8, v13]), ([43], .agg #[.int .i64 9, v14]), ([45], .agg #[.int .i64 9, v15]), ([42], .agg #[.int .i64 10, v16]), ([47], .agg #[.int .i64 10, v17]), ([37], .agg #[.int .i64 10, v18])]
abbrev opNames : List Str := [[124, 124], [38, 38], [124], [94], [38], [61, 61], [33, 61], [60], [60, 61], [62], [62, 61], [60, 60], [62, 62], [43], [45], [42], [47], [37]]
theorem rank_cases {op : Str} (h : ¬ rankOf op = 0) : op ∈ opNames := by
  unfold rankOf at h
  split at h <;> first | (exact absurd rfl h) | decide
theorem rank_names : ∀ op, op ∈ opNames → ¬ rankOf op = 0 := by decide
theorem opL_ok {X : Ce} {v1 v2 v3 v4 v5 v6 v7 v8 v9 v10 v11 v12 v13 v14 v15 v16 v17 v18 : Value} (k1 : okCell v1 = true) (k2 : okCell v2 = true)
    (k3 : okCell v3 = true) (f3 : FnOk X [124] v3) (k4 : okCell v4 = true) (f4 : FnOk X [94] v4) (k5 : okCell v5 = true) (f5 : FnOk X [38] v5) (k6 : okCell v6 = true) (f6 : FnOk X [61, 61] v6) (k7 : okCell v7 = true) (f7 : FnOk X [33, 61] v7) (k8 : okCell v8 = true) (f8 : FnOk X [60] v8) (k9 : okCell v9 = true) (f9 : FnOk X [60, 61] v9) (k10 : okCell v10 = true) (f10 : FnOk X [62] v10) (k11 : okCell v11 = true) (f11 : FnOk X [62, 61] v11) (k12 : okCell v12 = true) (f12 : FnOk X [60, 60] v12) (k13 : okCell v13 = true) (f13 : FnOk X [62, 62] v13) (k14 : okCell v14 = true) (f14 : FnOk X [43] v14) (k15 : okCell v15 = true) (f15 : FnOk X [45] v15) (k16 : okCell v16 = true) (f16 : FnOk X [42] v16) (k17 : okCell v17 = true) (f17 : FnOk X [47] v17) (k18 : okCell v18 = true) (f18 : FnOk X [37] v18) : OpsOk X (opL v1 v2 v3 v4 v5 v6 v7 v8 v9 v10 v11 v12 v13 v14 v15 v16 v17 v18) := by
  refine ⟨fun op h => ?_, fun op h => ?_⟩
  · have hm := rank_cases h
    simp only [opNames, List.mem_cons, List.not_mem_nil, or_false] at hm
    rcases hm with rfl | rfl | rfl | rfl | rfl | rfl | rfl | rfl | rfl | rfl | rfl | rfl | rfl | rfl | rfl | rfl | rfl | rfl
    · exact ⟨v1, by kernel_rfl, k1, fun h => absurd (by decide) h⟩
    · exact ⟨v2, by kernel_rfl, k2, fun _ h => absurd (by decide) h⟩
    · exact ⟨v3, by kernel_rfl, k3, fun _ _ => f3⟩
    · exact ⟨v4, by kernel_rfl, k4, fun _ _ => f4⟩
    · exact ⟨v5, by kernel_rfl, k5, fun _ _ => f5⟩
    · exact ⟨v6, by kernel_rfl, k6, fun _ _ => f6⟩
    · exact ⟨v7, by kernel_rfl, k7, fun _ _ => f7⟩
    · exact ⟨v8, by kernel_rfl, k8, fun _ _ => f8⟩
    · exact ⟨v9, by kernel_rfl, k9, fun _ _ => f9⟩
    · exact ⟨v10, by kernel_rfl, k10, fun _ _ => f10⟩
    · exact ⟨v11, by kernel_rfl, k11, fun _ _ => f11⟩
    · exact ⟨v12, by kernel_rfl, k12, fun _ _ => f12⟩
    · exact ⟨v13, by kernel_rfl, k13, fun _ _ => f13⟩
    · exact ⟨v14, by kernel_rfl, k14, fun _ _ => f14⟩
    · exact ⟨v15, by kernel_rfl, k15, fun _ _ => f15⟩
    · exact ⟨v16, by kernel_rfl, k16, fun _ _ => f16⟩
    · exact ⟨v17, by kernel_rfl, k17, fun _ _ => f17⟩
    · exact ⟨v18, by kernel_rfl, k18, fun _ _ => f18⟩
  · refine lookup_none fun p hp e => ?_
    subst e
    exact rank_names _ (List.mem_map_of_mem (f := Prod.fst) hp) h
theorem ins_opL (v1 v2 v3 v4 v5 v6 v7 v8 v9 v10 v11 v12 v13 v14 v15 v16 v17 v18 : Value) : ins (κ := Str) (ins (κ := Str) (ins (κ := Str) (ins (κ := Str) (ins (κ := Str) (ins (κ := Str) (ins (κ := Str) (ins (κ := Str) (ins (κ := Str) (ins (κ := Str) (ins (κ := Str) (ins (κ := Str) (ins (κ := Str) (ins (κ := Str) (ins (κ := Str) (ins (κ := Str) (ins (κ := Str) (ins (κ := Str) (([] : List (Str × Value))) [124, 124] (.agg #[.int .i64 1, v1])) [38, 38] (.agg #[.int .i64 2, v2])) [124] (.agg #[.int .i64 3, v3])) [94] (.agg #[.int .i64 4, v4])) [38] (.agg #[.int .i64 5, v5])) [61, 61] (.agg #[.int .i64 6, v6])) [33, 61] (.agg #[.int .i64 6, v7])) [60] (.agg #[.int .i64 7, v8])) [60, 61] (.agg #[.int .i64 7, v9])) [62] (.agg #[.int .i64 7, v10])) [62, 61] (.agg #[.int .i64 7, v11])) [60, 60] (.agg #[.int .i64 8, v12])) [62, 62] (.agg #[.int .i64 8, v13])) [43] (.agg #[.int .i64 9, v14])) [45] (.agg #[.int .i64 9, v15])) [42] (.agg #[.int .i64 10, v16])) [47] (.agg #[.int .i64 10, v17])) [37] (.agg #[.int .i64 10, v18]) = opL v1 v2 v3 v4 v5 v6 v7 v8 v9 v10 v11 v12 v13 v14 v15 v16 v17 v18 := by kernel_rfl
section
variable {X : Ce} {σ : AS} {R : List Ck} {k : Value → AS → Prop} {fn : Nat}
theorem plain_c (h : Hs σ X R) (hk : ∀ q X' σ', Ce.le X X' → X' q 0 = some (fv0 fn) → Hs σ' X' R → k (.func (.func 229) #[] #[pvw q]) σ') : kCall PG 172 [fv0 fn] σ k := by
  refine f172 ?_
  obtain ⟨X', h1, h2, h3⟩ := (h.new (cs := [fv0 fn])).freeze
  (try simp -dsimp (disch := first|exact P5|fail) only [↓P1,P2,↓P4,Q1,Q2,Q3,Q4,Q5,Q6,Q7,Q8,Q9, F172])
  exact hk _ X' _ h1 (h2 0 _ rfl) h3
theorem over_c {least : Int} (h : Hs σ X R) (hk : ∀ q q2 X' σ', Ce.le X X' → X' q 0 = some (fv0 fn) → X' q2 0 = some (.int .i64 least) → Hs σ' X' R → k (.func (.func 230) #[] #[pvw q2, pvw q]) σ') : kCall PG 188 [fv0 fn, .int .i64 least] σ k := by
  refine f188 ?_
  obtain ⟨X1, h1, h2, h3⟩ := (h.new (cs := [fv0 fn])).freeze
  obtain ⟨X2, h4, h5, h6⟩ := (h3.new (cs := [.int .i64 least])).freeze
  (try simp -dsimp (disch := first|exact P5|fail) only [↓P1,P2,↓P4,Q1,Q2,Q3,Q4,Q5,Q6,Q7,Q8,Q9, F188])
  exact hk _ _ X2 _ (Ce.le_trans h1 h4) (h4 _ _ _ (h2 0 _ rfl)) (h5 0 _ rfl) h6
theorem ops_c (h : Hs σ X R) (hk : ∀ m ops X' σ', Ce.le X X' → OpsOk X' ops → Hs σ' X' (Mp (κ := Str) m none ops :: R) → k (.map (some m)) σ') : kCall PG 133 [] σ k := by
  refine f133 ?_
  have h0 := h.newMap (κ := Str)
  (try simp -dsimp (disch := first|exact P5|fail) only [↓P1,P2,↓P4,Q1,Q2,Q3,Q4,Q5,Q6,Q7,Q8,Q9, F133])
  refine mup_by (κ := Str) (k := [124, 124]) h0 Tryz.underlying216 Tryz.underlying9 fun s1 h1 => ?_
  (try simp -dsimp (disch := first|exact P5|fail) only [↓P1,P2,↓P4,Q1,Q2,Q3,Q4,Q5,Q6,Q7,Q8,Q9])
  refine mup_by (κ := Str) (k := [38, 38]) h1 Tryz.underlying216 Tryz.underlying9 fun s2 h2 => ?_
  (try simp -dsimp (disch := first|exact P5|fail) only [↓P1,P2,↓P4,Q1,Q2,Q3,Q4,Q5,Q6,Q7,Q8,Q9])
  refine plain_c h2 fun q3 X3 t3 l3 c3 g3 => ?_
  (try simp -dsimp (disch := first|exact P5|fail) only [↓P1,P2,↓P4,Q1,Q2,Q3,Q4,Q5,Q6,Q7,Q8,Q9])
  refine mup_by (κ := Str) (k := [124]) g3 Tryz.underlying216 Tryz.underlying9 fun s3 h3 => ?_
  (try simp -dsimp (disch := first|exact P5|fail) only [↓P1,P2,↓P4,Q1,Q2,Q3,Q4,Q5,Q6,Q7,Q8,Q9])
  refine plain_c h3 fun q4 X4 t4 l4 c4 g4 => ?_
  (try simp -dsimp (disch := first|exact P5|fail) only [↓P1,P2,↓P4,Q1,Q2,Q3,Q4,Q5,Q6,Q7,Q8,Q9])
  refine mup_by (κ := Str) (k := [94]) g4 Tryz.underlying216 Tryz.underlying9 fun s4 h4 => ?_
  (try simp -dsimp (disch := first|exact P5|fail) only [↓P1,P2,↓P4,Q1,Q2,Q3,Q4,Q5,Q6,Q7,Q8,Q9])
  refine plain_c h4 fun q5 X5 t5 l5 c5 g5 => ?_
  (try simp -dsimp (disch := first|exact P5|fail) only [↓P1,P2,↓P4,Q1,Q2,Q3,Q4,Q5,Q6,Q7,Q8,Q9])
  refine mup_by (κ := Str) (k := [38]) g5 Tryz.underlying216 Tryz.underlying9 fun s5 h5 => ?_
  (try simp -dsimp (disch := first|exact P5|fail) only [↓P1,P2,↓P4,Q1,Q2,Q3,Q4,Q5,Q6,Q7,Q8,Q9])
  refine plain_c h5 fun q6 X6 t6 l6 c6 g6 => ?_
  (try simp -dsimp (disch := first|exact P5|fail) only [↓P1,P2,↓P4,Q1,Q2,Q3,Q4,Q5,Q6,Q7,Q8,Q9])
  refine mup_by (κ := Str) (k := [61, 61]) g6 Tryz.underlying216 Tryz.underlying9 fun s6 h6 => ?_
  (try simp -dsimp (disch := first|exact P5|fail) only [↓P1,P2,↓P4,Q1,Q2,Q3,Q4,Q5,Q6,Q7,Q8,Q9])
  refine plain_c h6 fun q7 X7 t7 l7 c7 g7 => ?_
  (try simp -dsimp (disch := first|exact P5|fail) only [↓P1,P2,↓P4,Q1,Q2,Q3,Q4,Q5,Q6,Q7,Q8,Q9])
  refine mup_by (κ := Str) (k := [33, 61]) g7 Tryz.underlying216 Tryz.underlying9 fun s7 h7 => ?_
  (try simp -dsimp (disch := first|exact P5|fail) only [↓P1,P2,↓P4,Q1,Q2,Q3,Q4,Q5,Q6,Q7,Q8,Q9])
  refine plain_c h7 fun q8 X8 t8 l8 c8 g8 => ?_
  (try simp -dsimp (disch := first|exact P5|fail) only [↓P1,P2,↓P4,Q1,Q2,Q3,Q4,Q5,Q6,Q7,Q8,Q9])
  refine mup_by (κ := Str) (k := [60]) g8 Tryz.underlying216 Tryz.underlying9 fun s8 h8 => ?_
  (try simp -dsimp (disch := first|exact P5|fail) only [↓P1,P2,↓P4,Q1,Q2,Q3,Q4,Q5,Q6,Q7,Q8,Q9])
  refine plain_c h8 fun q9 X9 t9 l9 c9 g9 => ?_
  (try simp -dsimp (disch := first|exact P5|fail) only [↓P1,P2,↓P4,Q1,Q2,Q3,Q4,Q5,Q6,Q7,Q8,Q9])
  refine mup_by (κ := Str) (k := [60, 61]) g9 Tryz.underlying216 Tryz.underlying9 fun s9 h9 => ?_
  (try simp -dsimp (disch := first|exact P5|fail) only [↓P1,P2,↓P4,Q1,Q2,Q3,Q4,Q5,Q6,Q7,Q8,Q9])
  refine plain_c h9 fun q10 X10 t10 l10 c10 g10 => ?_
  (try simp -dsimp (disch := first|exact P5|fail) only [↓P1,P2,↓P4,Q1,Q2,Q3,Q4,Q5,Q6,Q7,Q8,Q9])
  refine mup_by (κ := Str) (k := [62]) g10 Tryz.underlying216 Tryz.underlying9 fun s10 h10 => ?_
  (try simp -dsimp (disch := first|exact P5|fail) only [↓P1,P2,↓P4,Q1,Q2,Q3,Q4,Q5,Q6,Q7,Q8,Q9])
  refine plain_c h10 fun q11 X11 t11 l11 c11 g11 => ?_
  (try simp -dsimp (disch := first|exact P5|fail) only [↓P1,P2,↓P4,Q1,Q2,Q3,Q4,Q5,Q6,Q7,Q8,Q9])
  refine mup_by (κ := Str) (k := [62, 61]) g11 Tryz.underlying216 Tryz.underlying9 fun s11 h11 => ?_
  (try simp -dsimp (disch := first|exact P5|fail) only [↓P1,P2,↓P4,Q1,Q2,Q3,Q4,Q5,Q6,Q7,Q8,Q9])
  refine plain_c h11 fun q12 X12 t12 l12 c12 g12 => ?_
  (try simp -dsimp (disch := first|exact P5|fail) only [↓P1,P2,↓P4,Q1,Q2,Q3,Q4,Q5,Q6,Q7,Q8,Q9])
  refine mup_by (κ := Str) (k := [60, 60]) g12 Tryz.underlying216 Tryz.underlying9 fun s12 h12 => ?_
  (try simp -dsimp (disch := first|exact P5|fail) only [↓P1,P2,↓P4,Q1,Q2,Q3,Q4,Q5,Q6,Q7,Q8,Q9])
  refine plain_c h12 fun q13 X13 t13 l13 c13 g13 => ?_
  (try simp -dsimp (disch := first|exact P5|fail) only [↓P1,P2,↓P4,Q1,Q2,Q3,Q4,Q5,Q6,Q7,Q8,Q9])
  refine mup_by (κ := Str) (k := [62, 62]) g13 Tryz.underlying216 Tryz.underlying9 fun s13 h13 => ?_
  (try simp -dsimp (disch := first|exact P5|fail) only [↓P1,P2,↓P4,Q1,Q2,Q3,Q4,Q5,Q6,Q7,Q8,Q9])
  refine plain_c h13 fun q14 X14 t14 l14 c14 g14 => ?_
  (try simp -dsimp (disch := first|exact P5|fail) only [↓P1,P2,↓P4,Q1,Q2,Q3,Q4,Q5,Q6,Q7,Q8,Q9])
  refine mup_by (κ := Str) (k := [43]) g14 Tryz.underlying216 Tryz.underlying9 fun s14 h14 => ?_
  (try simp -dsimp (disch := first|exact P5|fail) only [↓P1,P2,↓P4,Q1,Q2,Q3,Q4,Q5,Q6,Q7,Q8,Q9])
  refine plain_c h14 fun q15 X15 t15 l15 c15 g15 => ?_
  (try simp -dsimp (disch := first|exact P5|fail) only [↓P1,P2,↓P4,Q1,Q2,Q3,Q4,Q5,Q6,Q7,Q8,Q9])
  refine mup_by (κ := Str) (k := [45]) g15 Tryz.underlying216 Tryz.underlying9 fun s15 h15 => ?_
  (try simp -dsimp (disch := first|exact P5|fail) only [↓P1,P2,↓P4,Q1,Q2,Q3,Q4,Q5,Q6,Q7,Q8,Q9])
  refine plain_c h15 fun q16 X16 t16 l16 c16 g16 => ?_
  (try simp -dsimp (disch := first|exact P5|fail) only [↓P1,P2,↓P4,Q1,Q2,Q3,Q4,Q5,Q6,Q7,Q8,Q9])
  refine mup_by (κ := Str) (k := [42]) g16 Tryz.underlying216 Tryz.underlying9 fun s16 h16 => ?_
  (try simp -dsimp (disch := first|exact P5|fail) only [↓P1,P2,↓P4,Q1,Q2,Q3,Q4,Q5,Q6,Q7,Q8,Q9])
  refine over_c h16 fun q17 p17 X17 t17 l17 c17 d17 g17 => ?_
  (try simp -dsimp (disch := first|exact P5|fail) only [↓P1,P2,↓P4,Q1,Q2,Q3,Q4,Q5,Q6,Q7,Q8,Q9])
  refine mup_by (κ := Str) (k := [47]) g17 Tryz.underlying216 Tryz.underlying9 fun s17 h17 => ?_
  (try simp -dsimp (disch := first|exact P5|fail) only [↓P1,P2,↓P4,Q1,Q2,Q3,Q4,Q5,Q6,Q7,Q8,Q9])
  refine over_c h17 fun q18 p18 X18 t18 l18 c18 d18 g18 => ?_
  (try simp -dsimp (disch := first|exact P5|fail) only [↓P1,P2,↓P4,Q1,Q2,Q3,Q4,Q5,Q6,Q7,Q8,Q9])
  refine mup_by (κ := Str) (k := [37]) g18 Tryz.underlying216 Tryz.underlying9 fun s18 h18 => ?_
  (try simp -dsimp (disch := first|exact P5|fail) only [↓P1,P2,↓P4,Q1,Q2,Q3,Q4,Q5,Q6,Q7,Q8,Q9])
  rw [ins_opL] at h18
  refine hk _ _ X18 _ (Ce.le_trans (Ce.le_trans (Ce.le_trans (Ce.le_trans (Ce.le_trans (Ce.le_trans (Ce.le_trans (Ce.le_trans (Ce.le_trans (Ce.le_trans (Ce.le_trans (Ce.le_trans (Ce.le_trans (Ce.le_trans (Ce.le_trans (l3) l4) l5) l6) l7) l8) l9) l10) l11) l12) l13) l14) l15) l16) l17) l18) (opL_ok (v1 := .nilFunc) (v2 := .nilFunc) rfl rfl
    rfl (plain_ok (l18 _ _ _ (l17 _ _ _ (l16 _ _ _ (l15 _ _ _ (l14 _ _ _ (l13 _ _ _ (l12 _ _ _ (l11 _ _ _ (l10 _ _ _ (l9 _ _ _ (l8 _ _ _ (l7 _ _ _ (l6 _ _ _ (l5 _ _ _ (l4 _ _ _ (c3)))))))))))))))) (by kernel_rfl) (fun _ _ => rfl) two_or)
    rfl (plain_ok (l18 _ _ _ (l17 _ _ _ (l16 _ _ _ (l15 _ _ _ (l14 _ _ _ (l13 _ _ _ (l12 _ _ _ (l11 _ _ _ (l10 _ _ _ (l9 _ _ _ (l8 _ _ _ (l7 _ _ _ (l6 _ _ _ (l5 _ _ _ (c4))))))))))))))) (by kernel_rfl) (fun _ _ => rfl) two_xor)
    rfl (plain_ok (l18 _ _ _ (l17 _ _ _ (l16 _ _ _ (l15 _ _ _ (l14 _ _ _ (l13 _ _ _ (l12 _ _ _ (l11 _ _ _ (l10 _ _ _ (l9 _ _ _ (l8 _ _ _ (l7 _ _ _ (l6 _ _ _ (c5)))))))))))))) (by kernel_rfl) (fun _ _ => rfl) two_and)
    rfl (plain_ok (l18 _ _ _ (l17 _ _ _ (l16 _ _ _ (l15 _ _ _ (l14 _ _ _ (l13 _ _ _ (l12 _ _ _ (l11 _ _ _ (l10 _ _ _ (l9 _ _ _ (l8 _ _ _ (l7 _ _ _ (c6))))))))))))) (by kernel_rfl) (fun _ _ => rfl) two_eq)
    rfl (plain_ok (l18 _ _ _ (l17 _ _ _ (l16 _ _ _ (l15 _ _ _ (l14 _ _ _ (l13 _ _ _ (l12 _ _ _ (l11 _ _ _ (l10 _ _ _ (l9 _ _ _ (l8 _ _ _ (c7)))))))))))) (by kernel_rfl) (fun _ _ => rfl) two_ne)
    rfl (plain_ok (l18 _ _ _ (l17 _ _ _ (l16 _ _ _ (l15 _ _ _ (l14 _ _ _ (l13 _ _ _ (l12 _ _ _ (l11 _ _ _ (l10 _ _ _ (l9 _ _ _ (c8))))))))))) (by kernel_rfl) (fun _ _ => rfl) two_lt)
    rfl (plain_ok (l18 _ _ _ (l17 _ _ _ (l16 _ _ _ (l15 _ _ _ (l14 _ _ _ (l13 _ _ _ (l12 _ _ _ (l11 _ _ _ (l10 _ _ _ (c9)))))))))) (by kernel_rfl) (fun _ _ => rfl) two_le)
    rfl (plain_ok (l18 _ _ _ (l17 _ _ _ (l16 _ _ _ (l15 _ _ _ (l14 _ _ _ (l13 _ _ _ (l12 _ _ _ (l11 _ _ _ (c10))))))))) (by kernel_rfl) (fun _ _ => rfl) two_gt)
    rfl (plain_ok (l18 _ _ _ (l17 _ _ _ (l16 _ _ _ (l15 _ _ _ (l14 _ _ _ (l13 _ _ _ (l12 _ _ _ (c11)))))))) (by kernel_rfl) (fun _ _ => rfl) two_ge)
    rfl (plain_ok (l18 _ _ _ (l17 _ _ _ (l16 _ _ _ (l15 _ _ _ (l14 _ _ _ (l13 _ _ _ (c12))))))) (by kernel_rfl) (fun _ _ => rfl) two_shl)
    rfl (plain_ok (l18 _ _ _ (l17 _ _ _ (l16 _ _ _ (l15 _ _ _ (l14 _ _ _ (c13)))))) (by kernel_rfl) (fun _ _ => rfl) two_shr)
    rfl (plain_ok (l18 _ _ _ (l17 _ _ _ (l16 _ _ _ (l15 _ _ _ (c14))))) (by kernel_rfl) (fun _ _ => rfl) two_add)
    rfl (plain_ok (l18 _ _ _ (l17 _ _ _ (l16 _ _ _ (c15)))) (by kernel_rfl) (fun _ _ => rfl) two_sub)
    rfl (plain_ok (l18 _ _ _ (l17 _ _ _ (c16))) (by kernel_rfl) (fun _ _ => rfl) two_mul)
    rfl (quo_ok (l18 _ _ _ (c17)) (l18 _ _ _ (d17)))
    rfl (rem_ok (c18) (d18))) ?_
  exact h18
end
end Go.Proofs.YtdlimikcgdgfpaaGreatDoor.A03
namespace Go.Proofs.YtdlimikcgdgfpaaGreatDoor.A03
open Tryz renaming prog → PG
open E renaming preR → P1, postR → P2, w_join → P3, w_stop → P4, dsc → P5
open E Go.Lib
open Rp
abbrev txts (l : List (Str × Int)) : List (Str × Str) := l.map fun q => (q.1, itoa q.2)
theorem next_nil (l : Str) : (nextP l = []) ↔ l = [] := by
  unfold nextP
  split
  · exact ⟨fun _ => rfl, fun _ => rfl⟩
  · simp
  · split <;> simp
theorem VarsI.mono {X X' : Ce} {vv : Value} {vars : List (Str × Str)} (h : VarsI X vv vars) (hx : Ce.le X X') : VarsI X' vv vars := ⟨h.r.mono hx, h.l⟩
theorem ErrI.mono {X X' : Ce} (h : ErrI X) (hx : Ce.le X X') : ErrI X' := ⟨by
  obtain ⟨a, b, h⟩ := h.s
  exact ⟨a, b, hx _ _ _ h⟩, by
  obtain ⟨a, b, h⟩ := h.r
  exact ⟨a, b, hx _ _ _ h⟩⟩
theorem setsI_nil (B : Nat) : SetsI B [] := fun p hp => by cases hp
def evalG (look : Str → Int × Int) (F : Nat) (s : Str) : Int × List (Str × Int) × Int :=
  if 4096 < s.length then (0, [], 3)
  else if skipB s = [] then (0, [], 0)
  else match ev look F .set ⟨skipB s, 0, 0, []⟩ with
    | none => (0, [], 10)
    | some (n, st) => if ¬ skipB st.left = [] then (0, [], 10) else if ¬ st.fell = 0 then (0, [], st.fell) else (n, st.sets, 0)
section
variable {X : Ce} {σ : AS} {R : List Ck} {k : Value → AS → Prop} {vv : Value} {s : Str} {g i : Nat} {o : Go.Obj} {vars : List (Str × Str)} {F : Nat}
theorem eval_c (T : VarAt PG "internal/strconv.uint64pow10" g o powV) (hE : ErrI X) (hV : VarsI X vv vars) (hL : LookI (lookV vars)) (hs : s.length ≤ maxLen) (hF : evF s ≤ F) (hg : R[i]? = some (Oth g o)) (h : Hs σ X R)
    (hk : ∀ u X' σ', Ce.le X X' → RepL X' u (txts (evalG (lookV vars) F s).2.1) → Hs σ' X' R → k (.tuple #[.int .i64 (evalG (lookV vars) F s).1, u, .int .i64 (evalG (lookV vars) F s).2.2]) σ') :
    kCall PG 102 [.string (bs s), vv] σ k := by
  refine f102 ?_
  have nilR : ∀ X' : Ce, RepL X' (.slice none 0 0) ([] : List (Str × Str)) := fun X' => ⟨none, 0, rfl, Nat.le_refl _, by unfold maxLen; omega, .inl rfl⟩
  unfold maxLen at hs
  unfold evalG at hk
  (try simp -dsimp (disch := first|exact P5|fail) only [↓P1,P2,↓P4,Q1,Q2,Q3,Q4,Q5,Q6,Q7,Q8,Q9, F102])
  refine join_by fun J1 hJ1 => ?_
  by_cases hb : 4096 < s.length
  · have hb' : 4096 < (s.length : Int) := by omega
    rw [if_pos hb] at hk
    (try simp -dsimp (disch := first|exact P5|fail) only [↓P1,P2,↓P4,Q1,Q2,Q3,Q4,Q5,Q6,Q7,Q8,Q9, hb'])
    exact hk _ X σ (Ce.le_refl _) (nilR X) h
  have hb' : ¬ 4096 < (s.length : Int) := by omega
  rw [if_neg hb] at hk
  (try simp -dsimp (disch := first|exact P5|fail) only [↓P1,P2,↓P4,Q1,Q2,Q3,Q4,Q5,Q6,Q7,Q8,Q9, hb'])
  refine hJ1 _ _ ?_
  clear hJ1
  (try simp -dsimp (disch := first|exact P5|fail) only [↓P1,P2,↓P4,Q1,Q2,Q3,Q4,Q5,Q6,Q7,Q8,Q9])
  refine ops_c h fun m ops X1 s1 le1 hO h1 => ?_
  obtain ⟨va, vc, rfl, _⟩ := hV.r
  have hV := hV.mono le1
  have hE := hE.mono le1
  have h2 := h1.own0 (α := Str × Str)
  have h3 : Hs _ X1 (WkR s1.n m ops (.slice va vars.length vc) (.slice none 0 0) ⟨s, 0, 0, []⟩ false R) := h2.new (cs := wkC ⟨s, 0, 0, []⟩ false m (.slice va vars.length vc) (.slice none 0 0))
  (try simp -dsimp (disch := first|exact P5|fail) only [↓P1,P2,↓P4,Q1,Q2,Q3,Q4,Q5,Q6,Q7,Q8,Q9])
  generalize AS.new s1 _ = s2 at h3 ⊢
  generalize s1.n = p at h3 ⊢
  refine join_by fun J2 hJ2 => ?_
  (try simp -dsimp (disch := first|exact P5|fail) only [↓P1,P2,↓P4,Q1,Q2,Q3,Q4,Q5,Q6,Q7,Q8,Q9])
  refine next_c hO (by show s.length ≤ _; omega) h3 fun s3 h4 => ?_
  obtain ⟨s', hs'⟩ : ∃ s', s' = skipB s := ⟨_, rfl⟩
  have hsl : s'.length ≤ s.length := by rw [hs']; exact skip_len s
  have est : (ASt.mk s 0 0 []).skip = ⟨s', 0, 0, []⟩ := by rw [hs']; rfl
  rw [est] at h4 ⊢
  rw [← hs'] at hk
  by_cases he : s' = []
  · have en : nextP s' = [] := (next_nil _).2 he
    rw [if_pos he] at hk
    (try simp -dsimp (disch := first|exact P5|fail) only [↓P1,P2,↓P4,Q1,Q2,Q3,Q4,Q5,Q6,Q7,Q8,Q9, en])
    exact hk _ X1 _ le1 (nilR X1) h4.drop.drop.drop
  have en : ¬ nextP s' = [] := fun h => he ((next_nil _).1 h)
  rw [if_neg he] at hk
  (try simp -dsimp (disch := first|exact P5|fail) only [↓P1,P2,↓P4,Q1,Q2,Q3,Q4,Q5,Q6,Q7,Q8,Q9, en])
  refine hJ2 _ _ ?_
  clear hJ2
  (try simp -dsimp (disch := first|exact P5|fail) only [↓P1,P2,↓P4,Q1,Q2,Q3,Q4,Q5,Q6,Q7,Q8,Q9])
  have hI : InvS 4096 ⟨s', 0, 0, []⟩ := ⟨by show 0 + s'.length + 0 ≤ 4096; omega, setsI_nil _⟩
  refine (all_c (B := 4096) (by omega) T hO hE hV hL F F (Nat.le_refl _)).1 _ _ _ ⟨s', 0, 0, []⟩ false _ i (by show needs _ s'.length ≤ _; simp only [needs, evF] at hF ⊢; omega) hI hg h4 fun v st' b' u' s4 a h5 => ?_
  have a1 := a.ok rfl
  (try simp -dsimp (disch := first|exact P5|fail) only [↓P1,P2,↓P4,Q1,Q2,Q3,Q4,Q5,Q6,Q7,Q8,Q9])
  refine join_by fun J3 hJ3 => ?_
  have hl' : st'.left.length ≤ s'.length := a.lq.left
  have fail_ : (ev (lookV vars) F .set ⟨s', 0, 0, []⟩ = none ∨ ∃ q, ev (lookV vars) F .set ⟨s', 0, 0, []⟩ = some q ∧ ¬ skipB q.2.left = []) → ∀ s5, Hs s5 X1 R → k (.tuple #[.int .i64 0, .slice none 0 0, .int .i64 10]) s5 := by
    intro hf s5 h6
    rcases hf with hf | ⟨q, hf, hq⟩
    · rw [hf] at hk
      exact hk _ X1 _ le1 (nilR X1) h6
    · rw [hf] at hk
      simp only [if_pos hq] at hk
      exact hk _ X1 _ le1 (nilR X1) h6
  cases b' with
  | true =>
    (try simp -dsimp (disch := first|exact P5|fail) only [↓P1,P2,↓P4,Q1,Q2,Q3,Q4,Q5,Q6,Q7,Q8,Q9, h5.obj])
    refine fail_ (.inl ?_) _ h5.drop.drop.drop
    cases hq : ev (lookV vars) F .set ⟨s', 0, 0, []⟩ with
    | none => rfl
    | some q => rw [hq] at a1; have := a1.2.2; cases this
  | false =>
    obtain ⟨hev, hsl'⟩ : ev (lookV vars) F .set ⟨s', 0, 0, []⟩ = some (v, st') ∧ True := by
      cases hq : ev (lookV vars) F .set ⟨s', 0, 0, []⟩ with
      | none => rw [hq] at a1; cases a1
      | some q =>
        rw [hq] at a1
        obtain ⟨n, s2'⟩ := q
        obtain ⟨rfl, rfl, _⟩ := a1
        exact ⟨rfl, trivial⟩
    (try simp -dsimp (disch := first|exact P5|fail) only [↓P1,P2,↓P4,Q1,Q2,Q3,Q4,Q5,Q6,Q7,Q8,Q9, h5.obj])
    refine next_c hO (by omega) h5 fun s5 h6 => ?_
    by_cases he2 : skipB st'.left = []
    · have en2 : nextP st'.skip.left = [] := (next_nil _).2 he2
      rw [hev] at hk
      have hn2 : ¬ ¬ skipB st'.left = [] := fun h => h he2
      simp only [if_neg hn2] at hk
      by_cases hfl : st'.fell = 0
      · have hn3 : ¬ ¬ st'.fell = 0 := fun h => h hfl
        simp only [if_neg hn3] at hk
        have e3 : (st'.skip.fell = 0) = True := eq_true hfl
        obtain ⟨X2, le2, r2, h7⟩ := h6.drop.keep
        (try simp -dsimp (disch := first|exact P5|fail) only [↓P1,P2,↓P4,Q1,Q2,Q3,Q4,Q5,Q6,Q7,Q8,Q9, en2, h6.obj, e3])
        refine hJ3 _ _ ?_
        (try simp -dsimp (disch := first|exact P5|fail) only [↓P1,P2,↓P4,Q1,Q2,Q3,Q4,Q5,Q6,Q7,Q8,Q9, h6.obj])
        exact hk _ X2 _ (Ce.le_trans le1 le2) r2 h7.drop
      · simp only [if_pos hfl] at hk
        have e3 : ¬ st'.skip.fell = 0 := hfl
        (try simp -dsimp (disch := first|exact P5|fail) only [↓P1,P2,↓P4,Q1,Q2,Q3,Q4,Q5,Q6,Q7,Q8,Q9, en2, h6.obj, e3])
        exact hk _ X1 _ le1 (nilR X1) h6.drop.drop.drop
    · have en2 : ¬ nextP st'.skip.left = [] := fun h => he2 ((next_nil _).1 h)
      (try simp -dsimp (disch := first|exact P5|fail) only [↓P1,P2,↓P4,Q1,Q2,Q3,Q4,Q5,Q6,Q7,Q8,Q9, en2])
      exact fail_ (.inr ⟨_, hev, he2⟩) _ h6.drop.drop.drop
end
end Go.Proofs.YtdlimikcgdgfpaaGreatDoor.A03
namespace Go.Proofs.YtdlimikcgdgfpaaGreatDoor.A03
open Tryz renaming prog → PG
open E renaming preR → P1, postR → P2, w_join → P3, w_stop → P4, dsc → P5
open E Go.Lib
open Rp
theorem valueP_in (s : Str) : inI64 (valueP s).1 := by
  unfold valueP inI64
  split
  · simp
  · split
    · simp
    · rename_i n hn
      split
      · split
        · simp
        · simp only; omega
      · split
        · simp
        · simp only; omega
theorem look_all (l : List (Str × Str)) : LookI (lookV l) := fun s => valueP_in _
end Go.Proofs.YtdlimikcgdgfpaaGreatDoor.A03
namespace Go.Proofs.YtdlimikcgdgfpaaGreatDoor.A03
open Tryz renaming prog → PG
open E renaming preR → P1, postR → P2, w_join → P3, w_stop → P4, dsc → P5
open E Go.Lib
open Rp
structure Law (X : Ce) (g : Nat) (o : Go.Obj) : Prop where
  t : VarAt PG "internal/strconv.uint64pow10" g o powV
  e : ErrI X
theorem Law.mono {X X' : Ce} {g : Nat} {o : Go.Obj} (h : Law X g o) (hx : Ce.le X X') : Law X' g o := ⟨h.t, h.e.mono hx⟩
section
variable {g : Nat} {o : Go.Obj}
theorem law_st {W : World} {te te2 : Nat} {pe pe2 : Value} {f : Nat} {args : List Value} (T : VarAt PG "internal/strconv.uint64pow10" g o powV) (ho : W.heap[g]? = some o) (hE : W.cell? ⟨5, 0, none⟩ = some (.iface te pe)) (hS : W.cell? ⟨4, 0, none⟩ = some (.iface te2 pe2))
    (h : ∀ σ, Law (startT W [g]).c g o → Hs σ (startT W [g]).c [Oth g o] → kCall PG f args σ fun v σ' => v = .bool true ∧ ∃ X', Hs σ' X' [Oth g o]) : callP PG f args W fun v w' => v = .bool true ∧ KeepP (fun _ => False) W w' := by
  have h0 : Hs (startT W [g]) (startT W [g]).c [Oth g o] := Hs.startT0.withT (startT_m (by simp) ho) (notX (by simp)) (fun C hC => by cases hC)
  have L : Law (startT W [g]).c g o := ⟨T, ⟨_, _, err_in T ho hS⟩, ⟨_, _, err_in T ho hE⟩⟩
  refine law_okT (gs := [g]) fun w hw => callP_mono (h _ L h0 w hw) fun v w' ⟨k1, σ', k2, k3, h1, X', h2⟩ => ⟨k1, σ', k2, k3, h1, fun g' o' hg' ho' => ?_⟩
  simp only [List.mem_singleton] at hg'
  subst hg'
  rw [ho] at ho'
  cases ho'
  exact h2.oth
end
end Go.Proofs.YtdlimikcgdgfpaaGreatDoor.A03
namespace Go.Proofs.YtdlimikcgdgfpaaGreatDoor.V08
open Tryz renaming prog → PG
open E Go.Lib
abbrev digs : List UInt8 := [48, 49, 50, 51, 52, 53, 54, 55, 56, 57]
section
variable {σ σ' : AS} {X : Ce} {R : List Ck} {k : Value → AS → Prop} {v m : Nat} {u : Value} {zero n val s : Str} {ms : List Str} {i q most : Int} {S : VM} {w : Bool} {x' : VV}
theorem trim_c (hl : s.length ≤ maxLen) (hk : ∀ j, k (.string (bs (trimS s digs))) (σ.up j)) : kCall PG 239 [.string (bs s), .string (bs digs)] σ k :=
  below_by (fun w hw => by
    have h := Any.strings_Trim_laid Tryz.lays160 (by kernel_rfl) (bs s) (bs digs) w (by unfold maxLen at hl; show s.toArray.size ≤ _; simpa using hl) (by decide) (ascii_of_all (by decide))
    have e : (bs s).data.toList = s := by simp [bs]
    have e2 : (bs digs).data.toList = digs := by simp [bs]
    rw [e, e2] at h
    exact h) hk
end
end Go.Proofs.YtdlimikcgdgfpaaGreatDoor.V08
namespace Go.Proofs.YtdlimikcgdgfpaaGreatDoor.V08
open Tryz renaming prog → PG
open E renaming preR → P1, postR → P2, w_join → P3, w_stop → P4, dsc → P5
open E Go.Lib
def TextsP (l : List Str) : Prop := l.length ≤ 20 ∧ ∀ s, s ∈ l → s.length ≤ 200
section
variable {σ σ' : AS} {X : Ce} {R : List Ck} {k : Value → AS → Prop} {v m : Nat} {u : Value} {zero n val s : Str} {ms : List Str} {i q most : Int} {S : VM} {w : Bool} {x' : VV} {ops : List OpV}
theorem texts_c {l : List Str} (h : Hs σ X R) (hr : RepL X u l) (hk1 : TextsP l → k (.bool true) σ) (hk0 : k (.bool false) σ) : kCall PG 10 [u] σ k := by
  obtain ⟨a, b, o, cap, rfl, hc, hm, hat⟩ := strs_at hr
  refine f10 ?_
  by_cases hlen : l.length ≤ 20
  rotate_left
  · (try simp -dsimp (disch := first|exact P5|fail) only [↓P1,P2,↓P3,Q1,Q2,Q3,Q4,Q5,Q6,Q7,Q8,Q9, F10])
    exact hk0
  (try simp -dsimp (disch := first|exact P5|fail) only [↓P1,P2,↓P4,Q1,Q2,Q3,Q4,Q5,Q6,Q7,Q8,Q9, F10])
  refine join_now ?_
  (try simp -dsimp (disch := first|exact P5|fail) only [↓P1,P2,↓P4,Q1,Q2,Q3,Q4,Q5,Q6,Q7,Q8,Q9])
  refine join_now ?_
  refine loop_inv (fun nn xs s1 => ∃ j : Nat, xs = [.int .i64 j] ∧ σ = s1 ∧ j ≤ l.length ∧ (∀ t, t ∈ l.take j → t.length ≤ 200) ∧ nn = l.length - j) _ ⟨0, rfl, rfl, Nat.zero_le _, by simp, rfl⟩ ?_
  rintro _ _ s1 again ⟨j, rfl, rfl, hj, hpre, rfl⟩ hag
  by_cases hlt : j < l.length
  · obtain ⟨rfl, c0, _⟩ := hat j hlt
    have g := h.ldx c0
    by_cases hp : l[j].length ≤ 200
    · (simp -dsimp (disch := first|exact P5|fail) only [↓P1,P2,↓P3,Q1,Q2,Q3,Q4,Q5,Q6,Q7,Q8,Q9, g])
      refine hag _ _ _ ⟨j + 1, by simp, rfl, hlt, ?_, rfl⟩ (by omega)
      rw [List.take_succ_eq_append_getElem hlt]
      intro t ht
      rcases List.mem_append.1 ht with ht | ht
      · exact hpre t ht
      · simp at ht; subst ht; exact hp
    · (simp -dsimp (disch := first|exact P5|fail) only [↓P1,P2,↓P3,Q1,Q2,Q3,Q4,Q5,Q6,Q7,Q8,Q9, g])
      exact hk0
  · (simp -dsimp (disch := first|exact P5|fail) only [↓P1,P2,↓P3,Q1,Q2,Q3,Q4,Q5,Q6,Q7,Q8,Q9])
    rw [List.take_of_length_le (by omega)] at hpre
    exact hk1 ⟨hlen, hpre⟩
end
end Go.Proofs.YtdlimikcgdgfpaaGreatDoor.V08
namespace Go.Proofs.YtdlimikcgdgfpaaGreatDoor.V08
open Tryz renaming prog → PG
open E Go.Lib
theorem cb_refl : ∀ a : List UInt8, compareBytes a a = 0
  | [] => rfl
  | a :: xs => by
    have h : ¬ a < a := fun h => by have := UInt8.lt_iff_toNat_lt.1 h; omega
    simp only [compareBytes, h, if_false]; exact cb_refl xs
theorem cb_swap : ∀ a b : List UInt8, compareBytes b a = - compareBytes a b
  | [], [] => rfl
  | [], _ :: _ => rfl
  | _ :: _, [] => rfl
  | a :: xs, b :: ys => by
    simp only [compareBytes]
    by_cases h1 : a < b
    · have h2 : ¬ b < a := fun h => by have := UInt8.lt_iff_toNat_lt.1 h; have := UInt8.lt_iff_toNat_lt.1 h1; omega
      simp only [h1, h2, if_true, if_false]
      rfl
    · by_cases h2 : b < a
      · simp only [h1, h2, if_true, if_false]
      · simp only [h1, h2, if_false]
        exact cb_swap xs ys
theorem cb_eq : ∀ {a b : List UInt8}, compareBytes a b = 0 → a = b
  | [], [], _ => rfl
  | [], _ :: _, h => by cases h
  | _ :: _, [], h => by cases h
  | a :: xs, b :: ys, h => by
    simp only [compareBytes] at h
    by_cases h1 : a < b
    · simp [h1] at h
    · by_cases h2 : b < a
      · simp [h1, h2] at h
      · simp only [h1, h2, if_false] at h
        have : a = b := by
          apply UInt8.toNat_inj.1
          have e1 : ¬ a.toNat < b.toNat := fun h => h1 (UInt8.lt_iff_toNat_lt.2 h)
          have e2 : ¬ b.toNat < a.toNat := fun h => h2 (UInt8.lt_iff_toNat_lt.2 h)
          omega
        rw [this, cb_eq h]
theorem cb_trans : ∀ {a b c : List UInt8}, compareBytes a b < 0 → compareBytes b c < 0 → compareBytes a c < 0
  | [], [], _, h, _ => by simp [compareBytes] at h
  | _ :: _, [], _, h, _ => by simp [compareBytes] at h
  | [], _ :: _, [], _, h => by simp [compareBytes] at h
  | [], _ :: _, _ :: _, _, _ => by simp [compareBytes]
  | _ :: _, _ :: _, [], _, h => by simp [compareBytes] at h
  | a :: xs, b :: ys, c :: cs, h1, h2 => by
    simp only [compareBytes] at h1 h2 ⊢
    have tt : ∀ {x y : UInt8}, x < y ↔ x.toNat < y.toNat := UInt8.lt_iff_toNat_lt
    by_cases ab : a < b
    · by_cases bc : b < c
      · have : a < c := by rw [tt] at *; omega
        simp [this]
      · by_cases cb : c < b
        · simp [bc, cb] at h2
        · have : a < c := by rw [tt] at *; omega
          simp [this]
    · by_cases ba : b < a
      · simp [ab, ba] at h1
      · simp only [ab, ba, if_false] at h1
        by_cases bc : b < c
        · have : a < c := by rw [tt] at *; omega
          simp [this]
        · by_cases cb : c < b
          · simp [bc, cb] at h2
          · simp only [bc, cb, if_false] at h2
            have n1 : ¬ a < c := by rw [tt] at *; omega
            have n2 : ¬ c < a := by rw [tt] at *; omega
            simp only [n1, n2, if_false]
            exact cb_trans h1 h2
abbrev cfS (x y : Str) : Int := compareBytes x y
theorem swoS : Sort.SWO (ltOf cfS) where
  irrefl x := by unfold ltOf cfS; rw [cb_refl]; rfl
  trans x y z h1 h2 := by
    unfold ltOf cfS at *
    rw [decide_eq_true_iff] at *
    exact cb_trans h1 h2
  ntrans x y z h1 h2 := by
    unfold ltOf cfS at *
    rw [decide_eq_false_iff_not] at *
    intro h3
    have e1 := cb_swap x y
    have e2 := cb_swap y z
    by_cases hxy : compareBytes x y = 0
    · rw [cb_eq hxy] at h3; exact h2 h3
    · have := cb_trans (a := y) (b := x) (c := z) (by omega) h3
      exact h2 this
theorem totS (x y : Str) (h1 : ltOf cfS x y = false) (h2 : ltOf cfS y x = false) : x = y := by
  unfold ltOf cfS at *
  rw [decide_eq_false_iff_not] at *
  have := cb_swap x y
  exact cb_eq (by omega)
end Go.Proofs.YtdlimikcgdgfpaaGreatDoor.V08
namespace Go.Proofs.YtdlimikcgdgfpaaGreatDoor.Srt
open Tryz renaming prog → PG
open Go.Shelf Go.RowKit Go.Lib Go.Sort
set_option maxHeartbeats 1000000 in
theorem closure (x y n1 n2 : ByteArray) (a1 a2 a3 b1 b2 b3 : Bool) (W : World) : Calls PG 52 #[.agg #[.string x, .string n1, .bool a1, .bool a2, .bool a3], .agg #[.string y, .string n2, .bool b1, .bool b2, .bool b3]] W fun e w' => e = .returned (.int .i64 (compareBytes x.data.toList y.data.toList)) ∧ ∃ q os', w' = grow (W.drewN q) os' := by
  have hcon := fun W' => Any.strings_Compare Tryz.lays106 x y W'
  change ∀ W', Calls PG 53 _ _ _ at hcon
  generalize compareBytes x.data.toList y.data.toList = r at hcon ⊢
  go_enter Tryz.func52, Tryz.ntmps52
  go_wp2_with (go_at_call 53; refine (hcon _).mono ?_; rintro e w' ⟨rfl, rfl⟩)
  go_ret
  exact ⟨rfl, 0, _, by rw [alloc_eq_grow, alloc_eq_grow, grow_grow]; rfl⟩
end Go.Proofs.YtdlimikcgdgfpaaGreatDoor.Srt
namespace Go.Proofs.YtdlimikcgdgfpaaGreatDoor.V08
open Tryz renaming prog → PG
open E renaming preR → P1, postR → P2, w_join → P3, w_stop → P4, dsc → P5
open E Go.Lib
open Go.Shelf Go.RowKit Go.Sort
theorem flatK_flat {enc : Str → List Value} {z : Nat} (hf : ∀ x, (enc x).length = z) (hz : 0 < z) (d : List Str) : (flatK enc z d.toArray).toList = flat enc d [] := by
  apply List.ext_getElem?
  intro t
  have hl : (flat enc d []).length = d.length * z := by rw [flat_len hf]; simp
  by_cases ht : t < d.length * z
  · have hi : t / z < d.length := Nat.div_lt_of_lt_mul (by rw [Nat.mul_comm]; exact ht)
    have h1 := flat_get (sp := []) hf (List.getElem?_eq_getElem hi) (Nat.mod_lt t hz)
    have e : t / z * z + t % z = t := by rw [Nat.mul_comm]; exact Nat.div_add_mod t z
    rw [e] at h1
    rw [h1]
    have h2 : t < (flatK enc z d.toArray).size := by rw [size_flatK]; simpa using ht
    have h3 := get_flatK enc z d.toArray t (by simpa using ht)
    rw [Array.getElem?_toList, Array.getElem?_eq_getElem h2]
    rw [getElem!_pos _ t h2] at h3
    rw [h3, getElem!_pos _ (t / z) (by simpa using hi), getElem!_pos _ (t % z) (by rw [hf]; exact Nat.mod_lt t hz)]
    simp [hf, Nat.mod_lt t hz]
  · rw [List.getElem?_eq_none (by rw [Array.length_toList, size_flatK]; simp; omega), List.getElem?_eq_none (by rw [hl]; omega)]
theorem putRow_put {w : World} {g : Nat} {cs : List Value} (hb : blk w g = some cs) (F : Array Value) (hF : F.size ≤ cs.length) : putRow id w g 0 F = E.put w g (F.toList ++ cs.drop F.size) := by
  obtain ⟨t, ht⟩ := blk_some hb
  have hlt := (Array.getElem?_eq_some_iff.1 ht).1
  unfold putRow mapBlock E.put
  congr 1
  apply Array.ext_getElem?
  intro i
  rw [Array.getElem?_modify, Array.getElem?_setIfInBounds]
  by_cases hi : g = i
  · subst hi
    rw [if_pos rfl, if_pos rfl, if_pos hlt, ht]
    have ety : tyOf w g = t := by unfold tyOf; rw [ht]
    rw [ety]
    simp only [Option.map_some, onCells]
    congr 2
    apply Array.ext_getElem?
    intro j
    unfold putCells
    rw [Array.getElem?_mapIdx]
    by_cases hj : j < F.size
    · have hj2 : j < cs.length := by omega
      simp [hj2, hj]
      rw [List.getElem?_append_left (by simpa using hj)]
      simp [hj]
    · simp [hj]
      by_cases hj2 : j < cs.length
      · rw [List.getElem?_append_right (by simp; omega)]
        simp [hj2]
        rw [show F.size + (j - F.size) = j from by omega]
        simp [hj2]
      · rw [List.getElem?_eq_none (by omega), List.getElem?_eq_none (by simp; omega)]
  · rw [if_neg hi, if_neg hi]
section
variable {σ σ' : AS} {X : Ce} {R : List Ck} {k : Value → AS → Prop} {g cap : Nat} {sp : List Value} {l : VL} {d : List Str}
abbrev encS (l : VL) (n : Str) : List Value := celV n (getV l n)
theorem encS_len (n : Str) : (encS l n).length = 5 := rfl
abbrev sortS (d : List Str) : List Str := d.mergeSort fun x y => !ltOf cfS y x
theorem cmpS (blk off size : Nat) (w : World) : CmpLays PG 52 #[] (encS l) 5 cfS blk off size w := fun _ _ _ _ x y => by
  have h := Srt.closure (bs x) (bs y) (bs (getV l x).val) (bs (getV l y).val) (getV l x).set (getV l x).exp (getV l x).ro (getV l y).set (getV l y).exp (getV l y).ro
  have e1 : (bs x).data.toList = x := by simp [bs]
  have e2 : (bs y).data.toList = y := by simp [bs]
  rw [e1, e2] at h
  exact h _
theorem sort_c (h : Hs σ X (Cel g (flat (encS l) d sp) :: R)) (hd : d.length ≤ 1000000) (hk : ∀ w σ', Hs σ' X (Cel g (flat (encS l) (sortS d) sp) :: R) → k w σ') :
    kCall PG 84 [.slice (some ⟨g, 0, none⟩) d.length cap, .func (.func 52) #[] #[]] σ k := by
  intro w hw
  have hb : blk w g = some (flat (encS l) d sp) := hw.m g _ h.obj
  have eg : ∀ args w, (callFunc 52 args).run PG w = .ok (.enter 52 args) w := enters_of Tryz.func52 (by kernel_rfl) rfl
  have hfl := flatK_flat (enc := encS l) (z := 5) encS_len (by decide) d
  have hH : HoldsK (encS l) 5 w g 0 d.toArray := by
    intro j hj
    rw [size_flatK] at hj
    have hj2 : j < (flat (encS l) d []).length := by rw [flat_len encS_len]; simpa using hj
    refine ⟨?_, fro hb _ _⟩
    rw [cel hb, Nat.zero_add]
    have e : (flatK (encS l) 5 d.toArray)[j]! = (flat (encS l) d [])[j] := by
      have hs : j < (flatK (encS l) 5 d.toArray).size := by rw [size_flatK]; exact hj
      rw [getElem!_pos _ j hs, ← Array.getElem_toList (h := hs)]
      simp only [hfl]
    rw [e]
    show (flat (encS l) d sp)[j]? = some _
    have e3 : flat (encS l) d sp = flat (encS l) d [] ++ sp := by unfold flat; simp
    rw [e3, List.getElem?_append_left hj2, List.getElem?_eq_getElem hj2]
    rfl
  have hcon := AnyQ.slices_SortFunc_total Tryz.sortL 5 Tryz.isAgg96 Tryz.sizeOf96 (encS l) encS_len (fun x v hv => by simp [encS] at hv; rcases hv with rfl | rfl | rfl | rfl | rfl <;> rfl) cfS swoS 52 #[] g 0 cap d.toArray w eg (cmpS _ _ _ _) hH (blk_lt hb) (by simp; omega) totS
  have esz : d.toArray.size = d.length := by simp
  rw [esz] at hcon
  refine Calls.mono hcon fun e w' ⟨he, n, os, hw'⟩ => ⟨_, he, ?_⟩
  have hb1 : blk (Go.Sort.ahead w n) g = some (flat (encS l) d sp) := hb
  have hperm : (sortS d).length = d.length := by simp [sortS]
  have e5 : putRowK (encS l) 5 (Go.Sort.ahead w n) g 0 (sortS d).toArray = E.put (Go.Sort.ahead w n) g (flat (encS l) (sortS d) sp) := by
    unfold putRowK
    rw [putRow_put hb1 _ (by rw [size_flatK, flat_len encS_len]; simp <;> omega), flatK_flat encS_len (by decide)]
    congr 1
    rw [size_flatK]
    have : (flat (encS l) d sp).drop ((sortS d).toArray.size * 5) = sp := by
      rw [List.size_toArray, hperm]
      have e3 : flat (encS l) d sp = flat (encS l) d [] ++ sp := by unfold flat; simp
      rw [e3, List.drop_left' (by rw [flat_len encS_len]; simp)]
    rw [this]
    unfold flat; simp
  have hw2 : Sat (σ.put g (.cells (flat (encS l) (sortS d) sp))) (E.put (Go.Sort.ahead w n) g (flat (encS l) (sortS d) sp)) := Sat.put (hw.drewN n) h.obj _
  have hbel : Below (E.put (Go.Sort.ahead w n) g (flat (encS l) (sortS d) sp)).heap.size (E.put (Go.Sort.ahead w n) g (flat (encS l) (sortS d) sp)) (grow (E.put (Go.Sort.ahead w n) g (flat (encS l) (sortS d) sp)) os) :=
    ⟨rfl, rfl, rfl, by simp [grow], fun k hk => by simp only [grow]; rw [Array.getElem?_append_left hk]⟩
  have ew : w' = grow (E.put (Go.Sort.ahead w n) g (flat (encS l) (sortS d) sp)) os := by
    rw [hw', ← e5]; rfl
  rw [ew]
  refine ⟨?_, _, hw2.below hbel, ?_, hk _ _ (h.put.up _)⟩
  · have hg : σ.live g := by unfold AS.live; rw [h.obj]; simp
    exact ((KeepP.drewN σ.live w n).step (KeepP.put_ (S := σ.live) hg _) (fun i h => .inl h)).step (KeepP.ofBelow (S := fun _ => False) hbel) (fun i h => h.elim)
  · exact (Fol.put σ g _).trans (Fol.up _ _)
end
end Go.Proofs.YtdlimikcgdgfpaaGreatDoor.V08
namespace Go.Proofs.YtdlimikcgdgfpaaGreatDoor.V08
open Tryz renaming prog → PG
open E renaming preR → P1, postR → P2, w_join → P3, w_stop → P4, dsc → P5
open E Go.Lib
open Go.Shelf Go.RowKit
abbrev FV := Str × Str × Bool × Bool × Bool
abbrev fvOf (n : Str) (x : VV) : FV := (n, x.val, x.set, x.exp, x.ro)
abbrev celF (p : FV) : List Value := [.string (bs p.1), .string (bs p.2.1), .bool p.2.2.1, .bool p.2.2.2.1, .bool p.2.2.2.2]
def VarR (v : Value) (L : List FV) : Ck := ⟨fun F X σ => (v = .slice none 0 0 ∧ L = [] ∧ F = []) ∨ ∃ g cap sp, v = .slice (some ⟨g, 0, none⟩) L.length cap ∧ F = [g] ∧ σ.m g = some (.cells (flat celF L sp)) ∧ L.length ≤ cap ∧ cap ≤ maxLen,
  fun h hx hm => by
    rcases h with h | ⟨g, cap, sp, h1, h2, h3, h4⟩
    · exact .inl h
    · exact .inr ⟨g, cap, sp, h1, h2, (hm g (by rw [h2]; simp)).trans h3, h4⟩,
  fun h g hg => by
    rcases h with ⟨_, _, h⟩ | ⟨b, cap, sp, h1, h2, h3, h4⟩
    · rw [h] at hg; cases hg
    · rw [h2] at hg; simp at hg; subst hg; exact AS.lt h3⟩
def FvOk (p : FV) : Prop := p.1.length ≤ maxLen ∧ p.2.1.length ≤ maxLen
section
variable {σ σ' : AS} {X : Ce} {R : List Ck} {k : Value → AS → Prop} {v : Value} {L : List FV} {g cap : Nat} {l : VL}
theorem rp_fv {p : FV} (h : FvOk p) : Rp.rp (α := FV) X p (celF p) := ⟨[_], _, rfl, ⟨rfl, h.1⟩, [_], _, rfl, ⟨rfl, h.2⟩, [_], _, rfl, rfl, [_], _, rfl, rfl, rfl⟩
theorem rp_fv_eq {p : FV} {cs : List Value} (h : Rp.rp (α := FV) X p cs) : cs = celF p := by
  obtain ⟨c1, r1, e1, ⟨f1, b1⟩, c2, r2, e2, ⟨f2, b2⟩, c3, r3, e3, f3, c4, r4, e4, f4, f5⟩ := h
  rw [e1, e2, e3, e4, f1, f2, f3, f4, f5]; rfl
theorem rpl_fv : ∀ {L : List FV} {xs : List Value}, RpL X L xs → xs = flat celF L []
  | [], xs, h => by
    have h : xs = [] := h
    rw [h]; rfl
  | p :: L, xs, h => by
    obtain ⟨x, y, rfl, h1, h2⟩ := h
    rw [rp_fv_eq h1, rpl_fv h2]
    simp [flat]
theorem VarR.own (h : Hs σ X (E.Own (α := FV) v L :: R)) : Hs σ X (VarR v L :: R) := by
  obtain ⟨F, ⟨rfl, xs, h1, h2⟩, hk⟩ := h.turn
  have hx := rpl_fv h2
  rcases h1 with ⟨rfl, h0, _⟩ | ⟨g, c, sp, rfl, hm, hl, hcl, hle, hcm⟩
  · have : L = [] := List.eq_nil_of_length_eq_zero h0
    subst this
    exact hk (F' := []) (Chg.refl _ _) (.inl ⟨rfl, rfl, rfl⟩) (fun g hg => by cases hg)
  · have e : xs ++ sp = flat celF L sp := by rw [hx]; simp [flat]
    rw [e] at hm
    exact hk (F' := [g]) (Chg.refl _ _) (.inr ⟨g, c, sp, rfl, rfl, hm, hle, hcm⟩) (fun g' hg => .inl (by simpa [ownL] using hg))
theorem VarR.cel (h : Hs σ X (VarR v L :: R)) : (v = .slice none 0 0 ∧ L = [] ∧ Hs σ X R) ∨ ∃ g cap sp, v = .slice (some ⟨g, 0, none⟩) L.length cap ∧ L.length ≤ cap ∧ cap ≤ maxLen ∧ Hs σ X (Cel g (flat celF L sp) :: R) := by
  obtain ⟨F, h1, hk⟩ := h.turn
  rcases h1 with ⟨h2, h3, rfl⟩ | ⟨g, cap, sp, h2, rfl, h3, h4, h5⟩
  · exact .inl ⟨h2, h3, h.drop⟩
  · exact .inr ⟨g, cap, sp, h2, h4, h5, hk (F' := [g]) (Chg.refl _ _) ⟨rfl, h3⟩ (fun g hg => .inl hg)⟩
theorem VarR.mk {sp : List Value} (h : Hs σ X (Cel g (flat celF L sp) :: R)) (h1 : L.length ≤ cap) (h2 : cap ≤ maxLen) : Hs σ X (VarR (.slice (some ⟨g, 0, none⟩) L.length cap) L :: R) := by
  obtain ⟨F, ⟨rfl, hm⟩, hk⟩ := h.turn
  exact hk (F' := [g]) (Chg.refl _ _) (.inr ⟨g, cap, sp, rfl, rfl, hm, h1, h2⟩) (fun g hg => .inl hg)
def listV (l : VL) (d : List Str) : List FV := d.map fun n => fvOf n (getV l n)
theorem flat_list (d : List Str) (sp : List Value) : flat celF (listV l d) sp = flat (encS l) d sp := by
  unfold flat listV
  rw [List.map_map]
  rfl
theorem sortR_c {d : List Str} (h : Hs σ X (VarR v (listV l d) :: R)) (hd : d.length ≤ 1000000) (hk : ∀ w σ', Hs σ' X (VarR v (listV l (sortS d)) :: R) → k w σ') :
    kCall PG 84 [v, .func (.func 52) #[] #[]] σ k := by
  rcases VarR.cel h with ⟨rfl, h2, h3⟩ | ⟨g, cap, sp, rfl, h4, h5, h6⟩
  · have hd0 : d = [] := by simpa [listV] using h2
    subst hd0
    exact below_by (v := .tuple #[]) (fun w hw => Calls.mono (AnyF.slices_SortFunc_none Tryz.sortL none 0 _ w) fun e w' ⟨he, hw'⟩ => ⟨he, hw' ▸ Below.refl _ _⟩) (fun j => hk _ _ (by rw [show sortS [] = [] from by simp [sortS]]; exact h.up j))
  · have el : (listV l d).length = d.length := by simp [listV]
    rw [el]
    rw [flat_list] at h6
    refine sort_c h6 hd fun w σ1 h7 => ?_
    refine hk _ _ ?_
    rw [← flat_list] at h7
    have el2 : (listV l (sortS d)).length = d.length := by simp [listV, sortS]
    have := VarR.mk (cap := cap) h7 (by rw [el2]; omega) h5
    rw [el2] at this
    rw [el]
    exact this
theorem nodup_len {α : Type} [DecidableEq α] : ∀ {d e : List α}, d.Nodup → (∀ x, x ∈ d → x ∈ e) → d.length ≤ e.length
  | [], _, _, _ => Nat.zero_le _
  | a :: d, e, hn, hs => by
    have hn := List.nodup_cons.1 hn
    have ha := hs a (by simp)
    have := nodup_len (d := d) (e := e.erase a) hn.2 fun x hx => (List.mem_erase_of_ne (by intro h; subst h; exact hn.1 hx)).2 (hs x (by simp [hx]))
    rw [List.length_erase_of_mem ha] at this
    have := List.length_pos_of_mem ha
    simp; omega
theorem mem_encL {n : Str} {u : Value} (hk : (encL l).Pairwise fun a b => a.1 ≠ b.1) (hm : (n, u) ∈ encL l) : u = encV n (getV l n) ∧ n ∈ l.map (·.1) := by
  unfold encL at hm
  obtain ⟨p, hp, he⟩ := List.mem_map.1 hm
  injection he with e1 e2
  subst e1
  have h1 := lookup_some (κ := Str) hk (List.mem_map.2 ⟨p, hp, rfl⟩ : (p.1, encV p.1 p.2) ∈ encL l)
  have h2 : (lkV l p.1).map (encV p.1) = some (encV p.1 p.2) := (lookup_encL l p.1).symm.trans h1
  refine ⟨?_, List.mem_map.2 ⟨p, hp, rfl⟩⟩
  rw [← e2]
  unfold getV
  cases hx : lkV l p.1 with
  | none => rw [hx] at h2; cases h2
  | some x =>
    rw [hx] at h2
    exact (Option.some.inj h2).symm
theorem keys_nodup (hk : (encL l).Pairwise fun a b => a.1 ≠ b.1) : (l.map (·.1)).Nodup := by
  unfold encL at hk
  rw [List.pairwise_map] at hk
  unfold List.Nodup
  rw [List.pairwise_map]
  exact hk
def VlOk (l : VL) : Prop := ∀ n, n ∈ l.map (·.1) → FvOk (fvOf n (getV l n))
theorem iterV_c {Y : List FV → Ck} {lid m1 m : Nat} (hok : VlOk l) (h : Hs σ X (Y [] :: Cel m1 [.map (some m)] :: Mp (κ := Str) m none (encL l) :: R))
    (hy : ∀ σ1 R1 pre p k1, Hs σ1 X (Y pre :: R1) → FvOk p → pre.length < l.length → (∀ σ2, Hs σ2 X (Y (pre ++ [p]) :: R1) → k1 (.bool true) σ2) → kYld PG lid [.agg (celF p).toArray] σ1 k1)
    (hk : ∀ σ' d, d.Perm (l.map (·.1)) → Hs σ' X (Y (listV l d) :: Cel m1 [.map (some m)] :: Mp (κ := Str) m none (encL l) :: R) → k undef σ') :
    kCall PG 85 [.func (.yield lid) #[] #[], .pointer (some ⟨m1, 0, none⟩)] σ k := by
  refine f85 ?_
  have hkeys := Mp.keys (κ := Str) (h.front 2 rfl)
  (try simp -dsimp (disch := first|exact P5|fail) only [↓P1,P2,↓P4,Q1,Q2,Q3,Q4,Q5,Q6,Q7,Q8,Q9, F85, h.obj1])
  refine rng_by (κ := Str) (h.front 2 rfl) Tryz.underlying90 fun σ1 h1 => ?_
  have h2 : Hs σ1 X (Mp (κ := Str) m (some (σ.n, [])) (encL l) :: Y (listV l []) :: Cel m1 [.map (some m)] :: R) := h1
  refine loop_inv (fun nn xs s => ∃ d : List Str, xs = [] ∧ d.Nodup ∧ (∀ n, n ∈ d → n ∈ l.map (·.1)) ∧
    Hs s X (Mp (κ := Str) m (some (σ.n, d.reverse)) (encL l) :: Y (listV l d) :: Cel m1 [.map (some m)] :: R) ∧ nn = l.length - d.length) _ ⟨[], rfl, by simp, by simp, h2, rfl⟩ ?_
  rintro _ _ s2 again ⟨d, rfl, hnd, hsub, h3, rfl⟩ hag
  refine nxt_by (κ := Str) h3 (fun hall => ?_) (fun n u s3 hmem hnv h4 => ?_)
  · (try simp -dsimp (disch := first|exact P5|fail) only [↓P1,P2,↓P3,Q1,Q2,Q3,Q4,Q5,Q6,Q7,Q8,Q9])
    have hp : d.Perm (l.map (·.1)) := by
      refine (List.perm_ext_iff_of_nodup hnd (keys_nodup hkeys)).2 fun n => ⟨hsub n, fun hn => ?_⟩
      obtain ⟨p, hp, rfl⟩ := List.mem_map.1 hn
      have := hall (p.1, encV p.1 p.2) (List.mem_map.2 ⟨p, hp, rfl⟩)
      simpa using this
    have h5 : Hs s2 X (Mp (κ := Str) m none (encL l) :: Y (listV l d) :: Cel m1 [.map (some m)] :: R) := Mp.over h3
    exact hk _ d hp (h5.rot2.rot2)
  · obtain ⟨eu, hin⟩ := mem_encL hkeys hmem
    subst eu
    have hnd2 : n ∉ d := by simpa using hnv
    have hnd3 : (d ++ [n]).Nodup := by
      rw [List.nodup_append]
      refine ⟨hnd, by simp, ?_⟩
      intro a ha b hb e
      simp at hb
      subst hb
      subst e
      exact hnd2 ha
    have hsub3 : ∀ x, x ∈ d ++ [n] → x ∈ l.map (·.1) := fun x hx => by
      rcases List.mem_append.1 hx with hx | hx
      · exact hsub x hx
      · simp at hx; subst hx; exact hin
    have hlen := nodup_len hnd3 hsub3
    simp at hlen
    (simp -dsimp (disch := first|exact P5|fail) only [↓P1,P2,↓P3,Q1,Q2,Q3,Q4,Q5,Q6,Q7,Q8,Q9])
    refine ent_by (κ := Str) h4 hmem ?_
    have h5 := h4.new (cs := celV [] z0)
    (simp -dsimp (disch := first|exact P5|fail) only [↓P1,P2,↓P3,Q1,Q2,Q3,Q4,Q5,Q6,Q7,Q8,Q9])
    refine yld_by (hy _ (Cel s3.n (celV n (getV l n)) :: Mp (κ := Str) m (some (σ.n, n :: d.reverse)) (encL l) :: Cel m1 [.map (some m)] :: R) (listV l d) (fvOf n (getV l n)) _ ?_ (hok n hin) (by simp [listV]; omega) fun s4 h6 => ?_)
    · exact (h5.put (cs' := celV n (getV l n))).rot2
    · (simp -dsimp (disch := first|exact P5|fail) only [↓P1,P2,↓P3,Q1,Q2,Q3,Q4,Q5,Q6,Q7,Q8,Q9])
      have h7 : Hs s4 X (Mp (κ := Str) m (some (σ.n, (d ++ [n]).reverse)) (encL l) :: Y (listV l (d ++ [n])) :: Cel m1 [.map (some m)] :: R) := by
        have e1 : (d ++ [n]).reverse = n :: d.reverse := by simp
        have e2 : listV l (d ++ [n]) = listV l d ++ [fvOf n (getV l n)] := by simp [listV]
        rw [e1, e2]
        exact ((h6.front 1 rfl).drop).swap
      exact hag _ _ _ ⟨d ++ [n], rfl, hnd3, hsub3, h7, rfl⟩ (by simp; omega)
end
end Go.Proofs.YtdlimikcgdgfpaaGreatDoor.V08
namespace Go.Proofs.YtdlimikcgdgfpaaGreatDoor.V08
open Tryz renaming prog → PG
open E renaming preR → P1, postR → P2, w_join → P3, w_stop → P4, dsc → P5
open E Go.Lib
def PV (o : Go.Obj) (D po : Nat) (pre : List FV) : Ck := Exs (fun v : Value => True) fun v => [Oth (D + 1) o, Oth D (.deferred (some [])), Cel po [v], E.Own v pre]
section
variable {σ σ' : AS} {X : Ce} {R : List Ck} {k : Value → AS → Prop} {v m m1 : Nat} {av : Value} {zero : Str} {ar : List Str} {st : Int} {l : VL}
theorem appendseq_c (hok : VlOk l) (hl : l.length ≤ 1000000) (h : Hs σ X (Cel m1 [.map (some m)] :: Mp (κ := Str) m none (encL l) :: R))
    (hk : ∀ u σ' d, d.Perm (l.map (·.1)) → Hs σ' X (VarR u (listV l d) :: Cel m1 [.map (some m)] :: Mp (κ := Str) m none (encL l) :: R) → k u σ') :
    kCall PG 116 [.slice none 0 0, .func (.func 85) #[] #[.pointer (some ⟨m1, 0, none⟩)]] σ k := by
  refine f116 ?_
  have h1 := h.new (cs := [.slice none 0 0])
  (try simp -dsimp (disch := first|exact P5|fail) only [↓P1,P2,↓P4,Q1,Q2,Q3,Q4,Q5,Q6,Q7,Q8,Q9, F116])
  generalize σ.n = po at h1 ⊢
  generalize AS.new σ _ = s1 at h1 ⊢
  refine join_by fun J hJ => ?_
  have tail : ∀ s2 D u d, d.Perm (l.map (·.1)) → Hs s2 X (Oth D (.deferred (some [])) :: Cel po [u] :: E.Own u (listV l d) :: Cel m1 [.map (some m)] :: Mp (κ := Str) m none (encL l) :: R) → J [consM (.int .i64 (D : Nat)) undef] s2 := by
    intro s2 D u d hd h2
    refine hJ _ _ ?_
    (simp -dsimp (disch := first|exact P5|fail) only [↓P1,P2,↓P3,Q1,Q2,Q3,Q4,Q5,Q6,Q7,Q8,Q9, h2.obj1])
    refine fin1 h2.oth ?_
    have h3 := (h2.putX (o' := .deferred none)).drop.drop
    exact hk _ _ d hd (VarR.own h3)
  clear hJ
  refine rngf_by (a := []) (b := [.pointer (some ⟨m1, 0, none⟩)]) (by kernel_rfl) fun o o' hY => ?_
  have h2 : Hs s1 X (Cel m1 [.map (some m)] :: Mp (κ := Str) m none (encL l) :: Cel po [.slice none 0 0] :: R) := h1.un2
  have h3 := (((h1.own0 (α := FV)).swap).newX (o := .deferred (some []))).newX (o := o)
  have hn : (s1.new (.other (.deferred (some [])))).n = s1.n + 1 := rfl
  rw [hn] at h3
  have h4 : Hs _ X (PV o s1.n po [] :: Cel m1 [.map (some m)] :: Mp (κ := Str) m none (encL l) :: R) := Hs.closed (p := fun v : Value => True) (.slice none 0 0) trivial h3
  refine iterV_c (Y := PV o s1.n po) hok h4 ?_ ?_
  · intro σ1 R1 pre p k1 g1 hp hpl hk1
    obtain ⟨u, _, g2⟩ := g1.opened
    refine hY _ _ _ g2.oth ⟨rfl, ?_⟩
    have g3 := (g2.new (cs := celF ([], [], false, false, false))).put (cs' := celF p)
    (simp -dsimp (disch := first|exact P5|fail) only [↓P1,P2,↓P3,Q1,Q2,Q3,Q4,Q5,Q6,Q7,Q8,Q9])
    generalize σ1.n = pw at g3 ⊢
    generalize AS.put _ pw _ = s4 at g3 ⊢
    refine ⟨g3.drop.oth, ?_⟩
    have g4 : Hs _ X (E.Own u pre :: Oth (s1.n + 1) o' :: Cel pw (celF p) :: Oth s1.n (.deferred (some [])) :: Cel po [u] :: R1) := (g3.front 1 rfl).putX (o' := o') |>.front 4 rfl
    obtain ⟨vx, vc, hv, _⟩ := g4.own
    have e1 := (g4.front 4 rfl).obj
    have e2 := (g4.front 2 rfl).obj
    (simp -dsimp (disch := first|exact P5|fail) only [↓P1,P2,↓P3,Q1,Q2,Q3,Q4,Q5,Q6,Q7,Q8,Q9, e1, e2])
    refine push_by g4 (e := 96) (bytes := 40) (by kernel_rfl) (by kernel_rfl) (rp_fv hp) (by omega) (by unfold maxLen; omega) fun v' s5 g5 => ?_
    obtain ⟨vx', vc', hv', _⟩ := g5.own
    subst hv'
    have e3 := (g5.front 4 rfl).obj
    (simp -dsimp (disch := first|exact P5|fail) only [↓P1,P2,↓P3,Q1,Q2,Q3,Q4,Q5,Q6,Q7,Q8,Q9, e3])
    have g6 : Hs _ X (Cel po [.slice vx' (pre ++ [p]).length vc'] :: E.Own (.slice vx' (pre ++ [p]).length vc') (pre ++ [p]) :: Oth (s1.n + 1) o' :: Cel pw (celF p) :: Oth s1.n (.deferred (some [])) :: R1) := (g5.front 4 rfl).put
    have g7 : Hs _ X (Oth (s1.n + 1) o' :: Cel po [.slice vx' (pre ++ [p]).length vc'] :: E.Own (.slice vx' (pre ++ [p]).length vc') (pre ++ [p]) :: Cel pw (celF p) :: Oth s1.n (.deferred (some [])) :: R1) := g6.front 2 rfl
    refine ⟨g7.oth, hk1 _ ?_⟩
    have g8 : Hs _ X (Oth (s1.n + 1) o :: Cel po [_] :: E.Own _ (pre ++ [p]) :: Oth s1.n (.deferred (some [])) :: R1) := ((g7.putX (o' := o)).front 3 rfl).drop
    have g9 : Hs _ X (Oth (s1.n + 1) o :: Oth s1.n (.deferred (some [])) :: Cel po [_] :: E.Own _ (pre ++ [p]) :: R1) := (g8.front 3 rfl).front 1 rfl
    exact Hs.closed (p := fun v : Value => True) _ trivial g9
  · intro σ1 d hd g1
    obtain ⟨u, _, g2⟩ := g1.opened
    refine ⟨g2.oth, fun o2 => ?_⟩
    exact tail _ _ u d hd g2.putX.drop
theorem sortS_perm {d e : List Str} (h : d.Perm e) : sortS d = sortS e := by
  have tr : ∀ (a b c : Str), (!ltOf cfS b a) = true → (!ltOf cfS c b) = true → (!ltOf cfS c a) = true := by
    intro a b c h1 h2
    simp only [Bool.not_eq_true'] at *
    exact swoS.ntrans _ _ _ h2 h1
  have to : ∀ (a b : Str), ((!ltOf cfS b a) || (!ltOf cfS a b)) = true := by
    intro a b
    cases h1 : ltOf cfS b a with
    | false => rfl
    | true =>
      cases h2 : ltOf cfS a b with
      | false => rfl
      | true => have := swoS.trans _ _ _ h1 h2; rw [swoS.irrefl] at this; cases this
  refine List.Perm.eq_of_pairwise (le := fun x y => (!ltOf cfS y x) = true) ?_ (List.pairwise_mergeSort tr to _) (List.pairwise_mergeSort tr to _) ((List.mergeSort_perm _ _).trans (h.trans (List.mergeSort_perm _ _).symm))
  intro a b _ _ h1 h2
  simp only [Bool.not_eq_true'] at h1 h2
  exact totS _ _ h2 h1
def allV (l : VL) : List FV := listV l (sortS (l.map (·.1)))
theorem all_c {S : VM} (hok : VlOk S.l) (hl : S.l.length ≤ 1000000) (h : Hs σ X (Vm v zero S :: R)) (hk : ∀ u σ', Hs σ' X (VarR u (allV S.l) :: Vm v zero S :: R) → k u σ') :
    kCall PG 25 [pv v] σ k := by
  obtain ⟨av, m, h1⟩ := Vs.open h
  refine f25 ?_
  (simp -dsimp (disch := first|exact P5|fail) only [↓P1,P2,↓P3,Q1,Q2,Q3,Q4,Q5,Q6,Q7,Q8,Q9, F25, h1.obj])
  refine f51 ?_
  have h2 := h1.new (cs := [.map (some m)])
  (simp -dsimp (disch := first|exact P5|fail) only [↓P1,P2,↓P3,Q1,Q2,Q3,Q4,Q5,Q6,Q7,Q8,Q9, F51])
  refine f50 ?_
  (try simp -dsimp (disch := first|exact P5|fail) only [↓P1,P2,↓P3,Q1,Q2,Q3,Q4,Q5,Q6,Q7,Q8,Q9, F50])
  refine f83 ?_
  (try simp -dsimp (disch := first|exact P5|fail) only [↓P1,P2,↓P3,Q1,Q2,Q3,Q4,Q5,Q6,Q7,Q8,Q9, F83])
  have h3 : Hs _ X (Cel σ.n [.map (some m)] :: Mp (κ := Str) m none (encL S.l) :: Cel v [.string (bs zero), av, .map (some m), .int .i64 S.st] :: StrR av S.ar :: R) := (h2.front 2 rfl).swap
  refine appendseq_c hok hl h3 fun u s1 d hd h4 => ?_
  (try simp -dsimp (disch := first|exact P5|fail) only [↓P1,P2,↓P3,Q1,Q2,Q3,Q4,Q5,Q6,Q7,Q8,Q9])
  refine sortR_c (l := S.l) h4 (by rw [hd.length_eq]; simpa using hl) fun w s2 h5 => ?_
  (try simp -dsimp (disch := first|exact P5|fail) only [↓P1,P2,↓P3,Q1,Q2,Q3,Q4,Q5,Q6,Q7,Q8,Q9])
  rw [sortS_perm hd] at h5
  have h6 : Hs s2 X (Cel σ.n [.map (some m)] :: VarR u (allV S.l) :: Mp (κ := Str) m none (encL S.l) :: Cel v [.string (bs zero), av, .map (some m), .int .i64 S.st] :: StrR av S.ar :: R) := h5.front 1 rfl
  have h7 : Hs s2 X (Cel v [.string (bs zero), av, .map (some m), .int .i64 S.st] :: VarR u (allV S.l) :: Mp (κ := Str) m none (encL S.l) :: StrR av S.ar :: R) := h6.drop.front 2 rfl
  have h8 : Hs s2 X (Cel v [.string (bs zero), av, .map (some m), .int .i64 S.st] :: Mp (κ := Str) m none (encL S.l) :: StrR av S.ar :: VarR u (allV S.l) :: R) := ((h7.front 1 rfl).un3)
  exact hk _ _ (Hs.swap (Vs.close h8))
end
end Go.Proofs.YtdlimikcgdgfpaaGreatDoor.V08
namespace Go.Proofs.YtdlimikcgdgfpaaGreatDoor.V08
open E Go.Lib
section
variable {σ σ' : AS} {X : Ce} {R : List Ck} {k : Value → AS → Prop} {a b u v : Value} {L : List FV} {l : List Str}
theorem VarR.get (h : Hs σ X (VarR v L :: R)) : ∃ a g o cap, v = .slice a L.length cap ∧ L.length ≤ cap ∧ cap ≤ maxLen ∧ ∀ i (hi : i < L.length), a = some ⟨g, o, none⟩ ∧ (∀ j w, (celF L[i])[j]? = some w → ldOb (σ.c g (o + i * 5 + j)) (σ.m g) (o + i * 5 + j) = some w) := by
  obtain ⟨F, h1, _⟩ := h.s
  rcases h1 with ⟨rfl, rfl, _⟩ | ⟨g, cap, sp, rfl, _, h3, h4, h5⟩
  · exact ⟨none, 0, 0, 0, rfl, Nat.le_refl _, by unfold maxLen; decide, fun i hi => by cases hi⟩
  · refine ⟨_, g, 0, cap, rfl, h4, h5, fun i hi => ⟨rfl, fun j w hw => ?_⟩⟩
    rw [h3, Nat.zero_add]
    have hj : j < 5 := by
      have := (List.getElem?_eq_some_iff.1 hw).1
      simpa using this
    show (flat celF L sp)[i * 5 + j]? = _
    rw [flat_get (z := 5) (fun _ => rfl) (List.getElem?_eq_getElem hi) hj]
    exact hw
end
end Go.Proofs.YtdlimikcgdgfpaaGreatDoor.V08
namespace Go.Proofs.YtdlimikcgdgfpaaGreatDoor.V08
open E Go.Lib
abbrev s0 : VM := ⟨[], 0, []⟩
structure InvV (S : VM) (j : Nat) : Prop where
  len : S.l.length ≤ j
  ar : S.ar.length ≤ 20
  ok : ∀ n x, lkV S.l n = some x → n.length ≤ 200 ∧ x.val.length ≤ 200
section
variable {S : VM} {n m val : Str} {w : Bool} {x' : VV} {o : OpV} {i : Int} {j : Nat} {l : VL}
theorem ins_len : (insV l n x').length ≤ l.length + 1 := by
  unfold insV; split <;> simp
theorem del_len : (delV l n).length ≤ l.length := by unfold delV; exact List.length_filter_le _ _
theorem InvV.more (h : InvV S j) : InvV S (j + 1) := ⟨by have := h.len; omega, h.ar, h.ok⟩
theorem InvV.getv (h : InvV S j) (n : Str) : (getV S.l n).val.length ≤ 200 := by
  unfold getV
  cases hx : lkV S.l n with
  | none => simp
  | some x => exact (h.ok n x hx).2
theorem InvV.turn (h : InvV S j) (hn : n.length ≤ 200) (hx : x'.val.length ≤ 200) : InvV (turnE S n w x').2 (j + 1) := by
  unfold turnE
  split
  · exact h.more
  split
  · exact h.more
  · refine ⟨?_, h.ar, ?_⟩
    · show (turnV S.l n x').length ≤ _
      have := h.len
      unfold turnV
      split
      · have := ins_len (l := S.l) (n := n) (x' := x'); omega
      · have := del_len (l := S.l) (n := n); omega
    · intro a x hax
      have hax : lkV (turnV S.l n x') a = some x := hax
      unfold turnV at hax
      split at hax
      · rw [lk_ins] at hax
        split at hax
        · rename_i e; cases hax; rw [e]; exact ⟨hn, hx⟩
        · exact h.ok a x hax
      · rw [lk_del] at hax
        split at hax
        · cases hax
        · exact h.ok a x hax
theorem lk_mem (h : n ∈ l.map (·.1)) : ∃ x, lkV l n = some x := by
  obtain ⟨p, hp, rfl⟩ := List.mem_map.1 h
  unfold lkV
  cases hf : l.find? fun q => decide (q.1 = p.1) with
  | none => rw [List.find?_eq_none] at hf; have := hf p hp; simp at this
  | some q => exact ⟨q.2, rfl⟩
theorem InvV.vl (h : InvV S j) : VlOk S.l := by
  intro n hn
  obtain ⟨x, hx⟩ := lk_mem hn
  have h1 := (h.ok n x hx).1
  have h2 := h.getv n
  exact ⟨by show n.length ≤ maxLen; unfold maxLen; omega, by show (getV S.l n).val.length ≤ maxLen; unfold maxLen; omega⟩
theorem InvV.all (h : InvV S j) : ∀ p, p ∈ allV S.l → FvOk p := by
  intro p hp
  unfold allV listV at hp
  obtain ⟨n, hn, rfl⟩ := List.mem_map.1 hp
  exact h.vl n ((List.mergeSort_perm _ _).mem_iff.1 hn)
theorem all_len : (allV l).length = l.length := by simp [allV, listV, sortS]
end
end Go.Proofs.YtdlimikcgdgfpaaGreatDoor.V08
namespace Go.Proofs.YtdlimikcgdgfpaaGreatDoor.V08
open Tryz renaming prog → PG
open E renaming preR → P1, postR → P2, w_join → P3, w_stop → P4, dsc → P5
open E Go.Lib
def alphaR (c : UInt8) : Bool := (decide (97 ≤ (c.toNat : Int)) && decide ((c.toNat : Int) ≤ 122)) || ((decide (65 ≤ (c.toNat : Int)) && decide ((c.toNat : Int) ≤ 90)) || decide ((c.toNat : Int) = 95))
theorem alpha_all : (List.range 256).all (fun i => alphaB (UInt8.ofNat i) == alphaR (UInt8.ofNat i)) = true := by kernel_rfl
theorem alpha_eq (c : UInt8) : alphaR c = alphaB c := by
  have h := List.all_eq_true.1 alpha_all c.toNat (List.mem_range.2 c.toNat_lt)
  rw [UInt8.ofNat_toNat] at h
  exact (eq_of_beq h).symm
section
variable {σ σ' : AS} {X : Ce} {R : List Ck} {k : Value → AS → Prop} {s : List UInt8} {c : UInt8}
theorem ralpha_c (hk : k (.bool (alphaB c)) σ) : kCall PG 146 [.int .u8 c.toNat] σ k := by
  refine f146 ?_
  rw [← alpha_eq] at hk
  unfold alphaR at hk
  by_cases h1 : 97 ≤ (c.toNat : Int)
  · by_cases h2 : (c.toNat : Int) ≤ 122
    · (simp -dsimp (disch := first|exact P5|fail) only [↓P1,P2,↓P3,Q1,Q2,Q3,Q4,Q5,Q6,Q7,Q8,Q9, F146, h1, h2])
      simp only [h1, h2, decide_true, Bool.true_and, Bool.true_or] at hk
      exact hk
    · have h3 : ¬ (c.toNat : Int) ≤ 90 := by omega
      have h4 : 65 ≤ (c.toNat : Int) := by omega
      have h5 : ¬ (c.toNat : Int) = 95 := by omega
      (simp -dsimp (disch := first|exact P5|fail) only [↓P1,P2,↓P3,Q1,Q2,Q3,Q4,Q5,Q6,Q7,Q8,Q9, F146, h1, h2, h3, h4, h5])
      simp only [h1, h2, h3, h4, h5, decide_true, decide_false, Bool.true_and, Bool.and_false, Bool.false_or] at hk
      exact hk
  · by_cases h4 : 65 ≤ (c.toNat : Int)
    · by_cases h3 : (c.toNat : Int) ≤ 90
      · (simp -dsimp (disch := first|exact P5|fail) only [↓P1,P2,↓P3,Q1,Q2,Q3,Q4,Q5,Q6,Q7,Q8,Q9, F146, h1, h3, h4])
        simp only [h1, h3, h4, decide_true, decide_false, Bool.true_and, Bool.false_and, Bool.false_or, Bool.true_or] at hk
        exact hk
      · (simp -dsimp (disch := first|exact P5|fail) only [↓P1,P2,↓P3,Q1,Q2,Q3,Q4,Q5,Q6,Q7,Q8,Q9, F146, h1, h3, h4])
        simp only [h1, h3, h4, decide_true, decide_false, Bool.true_and, Bool.false_and, Bool.false_or] at hk
        exact hk
    · have h5 : ¬ (c.toNat : Int) = 95 := by omega
      (simp -dsimp (disch := first|exact P5|fail) only [↓P1,P2,↓P3,Q1,Q2,Q3,Q4,Q5,Q6,Q7,Q8,Q9, F146, h1, h4, h5])
      simp only [h1, h4, h5, decide_false, Bool.false_and, Bool.false_or] at hk
      exact hk
theorem rdigit_c (hk : k (.bool (digitB c)) σ) : kCall PG 147 [.int .u8 c.toNat] σ k := by
  refine f147 ?_
  unfold digitB at hk
  by_cases h2 : 48 ≤ (c.toNat : Int)
  · (simp -dsimp (disch := first|exact P5|fail) only [↓P1,P2,↓P3,Q1,Q2,Q3,Q4,Q5,Q6,Q7,Q8,Q9, F147, h2])
    simp only [h2, decide_true, Bool.true_and] at hk
    exact hk
  · (simp -dsimp (disch := first|exact P5|fail) only [↓P1,P2,↓P3,Q1,Q2,Q3,Q4,Q5,Q6,Q7,Q8,Q9, F147, h2])
    simp only [h2, decide_false, Bool.false_and] at hk
    exact hk
theorem rfront_c (hl : s.length ≤ maxLen) (hk : k (.int .i64 (frontF 0 s)) σ) : kCall PG 115 [.string (bs s)] σ k := by
  refine f115 ?_
  unfold maxLen at hl
  cases s with
  | nil =>
    (simp -dsimp (disch := first|exact P5|fail) only [↓P1,P2,↓P3,Q1,Q2,Q3,Q4,Q5,Q6,Q7,Q8,Q9, F115])
    exact hk
  | cons c t =>
    have hne : (c :: t = []) = False := by simp
    have hlen : (c :: t).length = t.length + 1 := rfl
    rw [hlen] at hl
    (try simp -dsimp (disch := first|exact P5|fail) only [↓P1,P2,↓P4,Q1,Q2,Q3,Q4,Q5,Q6,Q7,Q8,Q9, F115, hne, hlen])
    refine join_by fun J hJ => ?_
    have hg : ((c :: t)[0]?.getD 0) = c := rfl
    have tail : alphaB c = true → J [] σ := by
      intro hA
      have hk2 : k (.int .i64 ((1 + frontF 1 t : Nat) : Int)) σ := by
        simp only [frontF, hA, Bool.true_or, if_true] at hk
        exact hk
      refine hJ _ _ ?_
      clear hJ
      (try simp -dsimp (disch := first|exact P5|fail) only [↓P1,P2,↓P4,Q1,Q2,Q3,Q4,Q5,Q6,Q7,Q8,Q9, hlen])
      refine join_now ?_
      refine loop_inv (fun nn xs s1 => ∃ j : Nat, xs = [.int .i64 ((j + 1 : Nat) : Int)] ∧ σ = s1 ∧ j ≤ t.length ∧ j + frontF (j + 1) (t.drop j) = frontF 1 t ∧ nn = t.length - j) _ ⟨0, rfl, rfl, Nat.zero_le _, by simp, rfl⟩ ?_
      rintro _ _ s1 again ⟨j, rfl, rfl, hj, hf, rfl⟩ hag
      by_cases hlt : j < t.length
      · rw [List.drop_eq_getElem_cons hlt] at hf
        simp only [frontF] at hf
        have h0 : 0 < j + 1 := by omega
        simp only [h0, decide_true, Bool.true_and] at hf
        have hg2 : (t[j]?.getD 0) = t[j] := by simp [hlt]
        (try simp -dsimp (disch := first|exact P5|fail) only [↓P1,P2,↓P4,Q1,Q2,Q3,Q4,Q5,Q6,Q7,Q8,Q9])
        refine join_now ?_
        have next : (1 + frontF (j + 1 + 1) (t.drop (j + 1)) + j = frontF 1 t) → again [.int .i64 ((j + 1 + 1 : Nat) : Int)] σ := fun e => hag _ _ _ ⟨j + 1, rfl, rfl, hlt, by omega, rfl⟩ (by omega)
        (try simp -dsimp (disch := first|exact P5|fail) only [↓P1,P2,↓P4,Q1,Q2,Q3,Q4,Q5,Q6,Q7,Q8,Q9, hlen, hg2])
        refine ralpha_c ?_
        cases hA2 : alphaB t[j] with
        | true =>
          rw [hA2, Bool.true_or, if_pos rfl] at hf
          (try simp -dsimp (disch := first|exact P5|fail) only [↓P1,P2,↓P3,Q1,Q2,Q3,Q4,Q5,Q6,Q7,Q8,Q9])
          exact next (by omega)
        | false =>
          rw [hA2, Bool.false_or] at hf
          (try simp -dsimp (disch := first|exact P5|fail) only [↓P1,P2,↓P4,Q1,Q2,Q3,Q4,Q5,Q6,Q7,Q8,Q9, hlen, hg2])
          refine rdigit_c ?_
          cases hD : digitB t[j] with
          | true =>
            rw [hD, if_pos rfl] at hf
            (try simp -dsimp (disch := first|exact P5|fail) only [↓P1,P2,↓P3,Q1,Q2,Q3,Q4,Q5,Q6,Q7,Q8,Q9])
            exact next (by omega)
          | false =>
            rw [hD] at hf
            simp at hf
            (try simp -dsimp (disch := first|exact P5|fail) only [↓P1,P2,↓P3,Q1,Q2,Q3,Q4,Q5,Q6,Q7,Q8,Q9])
            have e : ((j + 1 : Nat) : Int) = ((1 + frontF 1 t : Nat) : Int) := by omega
            rw [e]
            exact hk2
      · (try simp -dsimp (disch := first|exact P5|fail) only [↓P1,P2,↓P3,Q1,Q2,Q3,Q4,Q5,Q6,Q7,Q8,Q9, hlen])
        have : t.drop j = [] := List.drop_of_length_le (by omega)
        rw [this] at hf
        simp only [frontF, Nat.add_zero] at hf
        have e : ((j + 1 : Nat) : Int) = ((1 + frontF 1 t : Nat) : Int) := by omega
        rw [e]
        exact hk2
    clear hJ
    have hF : (c :: t = []) = False := by simp
    (try simp -dsimp (disch := first|exact P5|fail) only [↓P1,P2,↓P4,Q1,Q2,Q3,Q4,Q5,Q6,Q7,Q8,Q9, hlen, hF])
    refine ralpha_c (c := c) ?_
    cases hA : alphaB c with
    | true =>
      (try simp -dsimp (disch := first|exact P5|fail) only [↓P1,P2,↓P4,Q1,Q2,Q3,Q4,Q5,Q6,Q7,Q8,Q9])
      exact tail hA
    | false =>
      (try simp -dsimp (disch := first|exact P5|fail) only [↓P1,P2,↓P4,Q1,Q2,Q3,Q4,Q5,Q6,Q7,Q8,Q9])
      simp only [frontF, hA, Bool.false_or, Nat.lt_irrefl, decide_false, Bool.false_and] at hk
      exact hk
theorem rname_c (hl : s.length ≤ maxLen) (hk : k (.bool (nameB s)) σ) : kCall PG 79 [.string (bs s)] σ k := by
  refine f79 ?_
  unfold nameB at hk
  by_cases h0 : s = []
  · (try simp -dsimp (disch := first|exact P5|fail) only [↓P1,P2,↓P3,Q1,Q2,Q3,Q4,Q5,Q6,Q7,Q8,Q9, F79, h0])
    simp only [h0, ne_eq, not_true_eq_false, decide_false, Bool.false_and] at hk
    exact hk
  · (try simp -dsimp (disch := first|exact P5|fail) only [↓P1,P2,↓P3,Q1,Q2,Q3,Q4,Q5,Q6,Q7,Q8,Q9, F79, h0])
    refine rfront_c hl ?_
    simp only [ne_eq, h0, not_false_eq_true, decide_true, Bool.true_and] at hk
    by_cases h1 : frontF 0 s = s.length
    · (try simp -dsimp (disch := first|exact P5|fail) only [↓P1,P2,↓P3,Q1,Q2,Q3,Q4,Q5,Q6,Q7,Q8,Q9, h1])
      simp only [h1, decide_true] at hk
      exact hk
    · have h2 : ¬ ((frontF 0 s : Int) = s.length) := by omega
      (try simp -dsimp (disch := first|exact P5|fail) only [↓P1,P2,↓P3,Q1,Q2,Q3,Q4,Q5,Q6,Q7,Q8,Q9, h2])
      simp only [h1, decide_false] at hk
      exact hk
end
abbrev zF : FV := ([], [], false, false, false)
def findF (L : List FV) (n : Str) : FV := (L.find? fun p => decide (p.1 = n)).getD zF
section
variable {σ σ' : AS} {X : Ce} {R : List Ck} {k : Value → AS → Prop} {r : Nat} {lv av : Value} {zero n : Str} {st : Int} {L : List FV}
theorem find_skip {j : Nat} (hj : j < L.length) (h : ¬ L[j].1 = n) : findF (L.drop j) n = findF (L.drop (j + 1)) n := by
  unfold findF
  rw [List.drop_eq_getElem_cons hj, List.find?_cons]
  simp [h]
theorem find_hit {j : Nat} (hj : j < L.length) (h : L[j].1 = n) : findF (L.drop j) n = L[j] := by
  unfold findF
  rw [List.drop_eq_getElem_cons hj, List.find?_cons]
  simp [h]
theorem find_c (h : Hs σ X (VarR lv L :: Cel r [lv, .string (bs zero), av, .int .i64 st] :: R)) (hk : ∀ σ', Hs σ' X (VarR lv L :: Cel r [lv, .string (bs zero), av, .int .i64 st] :: R) → k (.agg (celF (findF L n)).toArray) σ') :
    kCall PG 80 [pv r, .string (bs n)] σ k := by
  refine f80 ?_
  have h1 : Hs _ X (VarR lv L :: Cel r [lv, .string (bs zero), av, .int .i64 st] :: Cel σ.n (celF zF) :: R) := (h.new (cs := celF zF)).un2
  obtain ⟨a, g, o, cap, rfl, hc, hm, hat⟩ := VarR.get h1
  unfold maxLen at hm
  (try simp -dsimp (disch := first|exact P5|fail) only [↓P1,P2,↓P4,Q1,Q2,Q3,Q4,Q5,Q6,Q7,Q8,Q9, F80])
  generalize σ.n = q at h1 hat ⊢
  generalize AS.new σ _ = s1 at h1 hat ⊢
  refine join_now ?_
  refine loop_inv (fun nn xs s => ∃ j : Nat, xs = [.int .i64 j] ∧ s1 = s ∧ j ≤ L.length ∧ findF (L.drop j) n = findF L n ∧ nn = L.length - j) _ ⟨0, rfl, rfl, Nat.zero_le _, by simp, rfl⟩ ?_
  rintro _ _ s again ⟨j, rfl, rfl, hj, hf, rfl⟩ hag
  have e2 : s1.m q = some (.cells (celF zF)) := (h1.front 2 rfl).obj
  have back : ∀ p : FV, Hs (s1.put q (.cells (celF p))) X (VarR (.slice a L.length cap) L :: Cel r [.slice a L.length cap, .string (bs zero), av, .int .i64 st] :: R) := fun p => ((h1.front 2 rfl).put (cs' := celF p)).drop
  by_cases hlt : j < L.length
  · obtain ⟨rfl, c⟩ := hat j hlt
    have c0 := c 0 _ rfl
    have c1 := c 1 _ rfl
    have c2 := c 2 _ rfl
    have c3 := c 3 _ rfl
    have c4 := c 4 _ rfl
    rw [Nat.add_zero] at c0
    by_cases hn : L[j].1 = n
    · have hT : (L[j].1 = n) = True := eq_true hn
      (simp -dsimp (disch := first|exact P5|fail) only [↓P1,P2,↓P3,Q1,Q2,Q3,Q4,Q5,Q6,Q7,Q8,Q9, h1.obj1, c0, c1, c2, c3, c4, hT, e2])
      rw [find_hit hlt hn] at hf
      rw [← hf] at hk
      exact hk _ (back _)
    · (simp -dsimp (disch := first|exact P5|fail) only [↓P1,P2,↓P3,Q1,Q2,Q3,Q4,Q5,Q6,Q7,Q8,Q9, h1.obj1, c0, hn])
      exact hag _ _ _ ⟨j + 1, by simp, rfl, hlt, by rw [← find_skip hlt hn]; exact hf, rfl⟩ (by omega)
  · (simp -dsimp (disch := first|exact P5|fail) only [↓P1,P2,↓P3,Q1,Q2,Q3,Q4,Q5,Q6,Q7,Q8,Q9, h1.obj1, e2])
    rw [List.drop_of_length_le (by omega)] at hf
    have : findF L n = zF := hf.symm
    rw [this] at hk
    exact hk _ (back zF)
end
theorem u8_eq {a b : UInt8} (h1 : ¬ a < b) (h2 : ¬ b < a) : a = b :=
  UInt8.toNat_inj.1 (by
    have e1 : ¬ a.toNat < b.toNat := fun h => h1 (UInt8.lt_iff_toNat_lt.2 h)
    have e2 : ¬ b.toNat < a.toNat := fun h => h2 (UInt8.lt_iff_toNat_lt.2 h)
    omega)
theorem bl_eq : ∀ a b : Str, Op.bytesLess a b = decide (compareBytes a b < 0)
  | [], [] => by simp [Op.bytesLess, compareBytes]
  | [], _ :: _ => by simp [Op.bytesLess, compareBytes]
  | _ :: _, [] => by simp [Op.bytesLess, compareBytes]
  | a :: x, b :: y => by
    rw [Op.bytesLess, bl_eq x y]
    simp only [compareBytes]
    by_cases h1 : a < b
    · simp [h1]
    · by_cases h2 : b < a
      · have : ¬ a = b := by rintro rfl; exact h1 h2
        simp [h1, h2, this]
      · have := u8_eq h1 h2
        subst this
        simp [h1]
def gtS (a b : Str) : Bool := !(Op.bytesLess a b || decide (a = b))
theorem gt_eq (a b : Str) : gtS a b = decide (compareBytes b a < 0) := by
  unfold gtS
  rw [bl_eq]
  have h1 := cb_swap a b
  have h2 : a = b ↔ compareBytes a b = 0 := ⟨fun h => by rw [h]; exact cb_refl b, cb_eq⟩
  by_cases h3 : compareBytes a b < 0
  · have : ¬ compareBytes b a < 0 := by omega
    simp [h3, this]
  · by_cases h4 : a = b
    · have : ¬ compareBytes b a < 0 := by have := h2.1 h4; omega
      simp [h4, cb_refl]
    · have : compareBytes b a < 0 := by have h5 : ¬ compareBytes a b = 0 := fun h => h4 (h2.2 h); omega
      simp [h3, h4, this]
def putF (x : FV) : Bool → List FV → List FV
  | d, [] => if d then [] else [x]
  | d, p :: L => (if (!d && gtS p.1 x.1) = true then [x] else []) ++ ((if p.1 = x.1 then [] else [p]) ++ putF x (d || gtS p.1 x.1) L)
def Srt (L : List FV) : Prop := L.Pairwise fun p q => compareBytes p.1 q.1 < 0
section
variable {L M : List FV} {x p : FV} {d : Bool} {l : VL} {n m : Str} {x' : VV}
theorem srt_ext (hL : Srt L) (hM : Srt M) (h : ∀ p, p ∈ L ↔ p ∈ M) : L = M := by
  have nd : ∀ {L : List FV}, Srt L → L.Nodup := fun h => h.imp (fun {a b} hab e => by subst e; rw [cb_refl] at hab; omega)
  have hp : L.Perm M := (List.perm_ext_iff_of_nodup (nd hL) (nd hM)).2 h
  refine List.Perm.eq_of_pairwise (le := fun (p q : FV) => compareBytes p.1 q.1 < 0) ?_ hL hM hp
  intro a b _ _ h1 h2
  have := cb_trans h1 h2
  rw [cb_refl] at this
  omega
theorem mem_put : ∀ {L : List FV} {d : Bool}, p ∈ putF x d L ↔ (p = x ∧ d = false) ∨ (p ∈ L ∧ p.1 ≠ x.1)
  | [], d => by cases d <;> simp [putF]
  | q :: L, d => by
    unfold putF
    rw [List.mem_append, List.mem_append, mem_put (L := L)]
    by_cases hq : q.1 = x.1
    · have hqp : ¬ (p = q ∧ p.1 ≠ x.1) := fun h => h.2 (by rw [h.1]; exact hq)
      cases d <;> cases hg : gtS q.1 x.1 <;> simp [hq] <;> grind
    · cases d <;> cases hg : gtS q.1 x.1 <;> simp [hq] <;> grind
theorem srt_put : ∀ {L : List FV} {d : Bool}, Srt L → Srt (putF x d L)
  | [], d, _ => by cases d <;> simp [putF, Srt]
  | q :: L, d, h => by
    have h' := List.pairwise_cons.1 h
    have ih := fun d => srt_put (L := L) (d := d) h'.2
    have up : ∀ y, y ∈ putF x true L → compareBytes q.1 y.1 < 0 := fun y hy => by
      rcases mem_put.1 hy with h1 | h1
      · cases h1.2
      · exact h'.1 y h1.1
    unfold putF
    cases d with
    | true =>
      simp only [Bool.not_true, Bool.false_and, Bool.true_or, List.nil_append, Bool.false_eq_true, if_false]
      split
      · exact ih true
      · exact List.pairwise_cons.2 ⟨up, ih true⟩
    | false =>
      simp only [Bool.not_false, Bool.true_and, Bool.false_or]
      rw [gt_eq]
      by_cases hg : compareBytes x.1 q.1 < 0
      · have hne : ¬ q.1 = x.1 := fun e => by rw [e, cb_refl] at hg; omega
        simp only [hg, decide_true, if_true, hne, if_false]
        refine List.pairwise_cons.2 ⟨fun y hy => ?_, List.pairwise_cons.2 ⟨up, ih true⟩⟩
        rcases List.mem_cons.1 hy with rfl | hy
        · exact hg
        · exact cb_trans hg (up y hy)
      · simp only [hg, decide_false, Bool.false_eq_true, if_false, List.nil_append]
        split
        · exact ih false
        · rename_i hne
          refine List.pairwise_cons.2 ⟨fun y hy => ?_, ih false⟩
          rcases mem_put.1 hy with ⟨rfl, _⟩ | h1
          · have h1 := cb_swap q.1 y.1
            have h2 : ¬ compareBytes q.1 y.1 = 0 := fun e => hne (cb_eq e)
            show compareBytes q.1 y.1 < 0
            omega
          · exact h'.1 y h1.1
theorem lk_in (h : lkV l n = some x') : n ∈ l.map (·.1) := by
  unfold lkV at h
  cases hf : l.find? (fun q => decide (q.1 = n)) with
  | none => rw [hf] at h; cases h
  | some q =>
    have h1 := List.find?_some hf
    have h2 := List.mem_of_find?_eq_some hf
    simp only [decide_eq_true_iff] at h1
    exact List.mem_map.2 ⟨q, h2, h1⟩
theorem mem_all : p ∈ allV l ↔ ∃ y, lkV l p.1 = some y ∧ p = fvOf p.1 y := by
  unfold allV listV
  rw [List.mem_map]
  constructor
  · rintro ⟨n, hn, rfl⟩
    have hn := (List.mergeSort_perm _ _).mem_iff.1 hn
    obtain ⟨y, hy⟩ := lk_mem hn
    refine ⟨y, hy, ?_⟩
    show fvOf n (getV l n) = fvOf n y
    unfold getV
    rw [hy]
    rfl
  · rintro ⟨y, hy, e⟩
    refine ⟨p.1, (List.mergeSort_perm _ _).mem_iff.2 (lk_in hy), ?_⟩
    rw [e]
    show fvOf p.1 (getV l p.1) = fvOf p.1 y
    unfold getV
    rw [hy]
    rfl
theorem srt_all (h : (l.map (·.1)).Nodup) : Srt (allV l) := by
  have tr : ∀ (a b c : Str), (!ltOf cfS b a) = true → (!ltOf cfS c b) = true → (!ltOf cfS c a) = true := by
    intro a b c h1 h2
    simp only [Bool.not_eq_true'] at *
    exact swoS.ntrans _ _ _ h2 h1
  have to : ∀ (a b : Str), ((!ltOf cfS b a) || (!ltOf cfS a b)) = true := by
    intro a b
    cases h1 : ltOf cfS b a with
    | false => rfl
    | true =>
      cases h2 : ltOf cfS a b with
      | false => rfl
      | true => have := swoS.trans _ _ _ h1 h2; rw [swoS.irrefl] at this; cases this
  have h1 := List.pairwise_mergeSort tr to (l.map (·.1))
  have h2 : (sortS (l.map (·.1))).Nodup := (List.mergeSort_perm _ _).nodup_iff.2 h
  unfold Srt allV listV
  rw [List.pairwise_map]
  refine (h1.and h2).imp (fun {a b} hab => ?_)
  obtain ⟨h3, h4⟩ := hab
  show compareBytes a b < 0
  have h5 : ¬ compareBytes b a < 0 := by simpa [ltOf, cfS] using h3
  have h6 := cb_swap a b
  have h7 : ¬ compareBytes a b = 0 := fun e => h4 (cb_eq e)
  omega
theorem put_all (h : (l.map (·.1)).Nodup) (h' : ((turnV l n x').map (·.1)).Nodup) : putF (fvOf n x') (!(x'.set || x'.exp || x'.ro)) (allV l) = allV (turnV l n x') := by
  refine srt_ext (srt_put (srt_all h)) (srt_all h') (fun p => ?_)
  rw [mem_put, mem_all, mem_all]
  have e : lkV (turnV l n x') p.1 = if p.1 = n then (if (x'.set || x'.exp || x'.ro) = true then some x' else none) else lkV l p.1 := by
    unfold turnV
    split
    · rw [lk_ins]
    · rw [lk_del]
  rw [e]
  by_cases hp : p.1 = n
  · rw [if_pos hp]
    have h1 : ¬ p.1 ≠ (fvOf n x').1 := fun h => h hp
    by_cases hl : (x'.set || x'.exp || x'.ro) = true
    · rw [if_pos hl, hl]
      constructor
      · rintro (⟨rfl, _⟩ | h2)
        · exact ⟨x', rfl, rfl⟩
        · exact absurd h2.2 h1
      · rintro ⟨y, hy, e2⟩
        cases hy
        rw [hp] at e2
        exact .inl ⟨e2, rfl⟩
    · rw [if_neg hl]
      have hl' : (x'.set || x'.exp || x'.ro) = false := by simpa using hl
      rw [hl']
      constructor
      · rintro (⟨_, h2⟩ | h2)
        · cases h2
        · exact absurd h2.2 h1
      · rintro ⟨y, hy, _⟩
        cases hy
  · rw [if_neg hp]
    constructor
    · rintro (⟨rfl, _⟩ | h2)
      · exact absurd rfl hp
      · exact h2.1
    · intro h2
      exact .inr ⟨h2, hp⟩
theorem find_all : findF (allV l) n = fvOf (nmV l n) (getV l n) := by
  unfold findF nmV getV
  cases hx : lkV l n with
  | none =>
    rw [List.find?_eq_none.2]
    · rfl
    · intro p hp hpn
      obtain ⟨y, hy, _⟩ := mem_all.1 hp
      simp only [decide_eq_true_iff] at hpn
      rw [hpn, hx] at hy
      cases hy
  | some y =>
    cases hf : (allV l).find? (fun p => decide (p.1 = n)) with
    | none =>
      have := List.find?_eq_none.1 hf (fvOf n y) (mem_all.2 ⟨y, hx, rfl⟩)
      simp at this
    | some p =>
      have h1 := List.find?_some hf
      simp only [decide_eq_true_iff] at h1
      obtain ⟨z, hz, e⟩ := mem_all.1 (List.mem_of_find?_eq_some hf)
      rw [h1, hx] at hz
      cases hz
      rw [h1] at e
      rw [e]
      rfl
end
end Go.Proofs.YtdlimikcgdgfpaaGreatDoor.V08
namespace Go.Proofs.YtdlimikcgdgfpaaGreatDoor.V08
open Tryz renaming prog → PG
open E renaming preR → P1, postR → P2, w_join → P3, w_stop → P4, dsc → P5
open E Go.Lib
theorem b_sgt (a b : Str) : binV .gtr (.string (bs a)) (.string (bs b)) = some (.bool (gtS a b)) := by
  have ea : (bs a).data.toList = a := by simp [bs]
  have eb : (bs b).data.toList = b := by simp [bs]
  show strV .gtr (bs a).data.toList (bs b).data.toList = _
  rw [ea, eb]
  rfl
section
variable {σ σ' : AS} {X : Ce} {R : List Ck} {k : Value → AS → Prop} {r : Nat} {lv av u : Value} {zero n val : Str} {st q i : Int} {L : List FV} {x : FV} {S : VM} {ms : List Str}
theorem put_len (x : FV) : ∀ {L : List FV} {d : Bool}, (putF x d L).length ≤ L.length + 1
  | [], d => by cases d <;> simp [putF]
  | p :: L, d => by
    have h1 := put_len x (L := L) (d := d || gtS p.1 x.1)
    have h2 : ∀ {L : List FV}, (putF x true L).length ≤ L.length := by
      intro L
      induction L with
      | nil => simp [putF]
      | cons q L ih =>
        unfold putF
        simp only [Bool.not_true, Bool.false_and, Bool.true_or, List.nil_append, Bool.false_eq_true, if_false]
        split
        · simp; omega
        · simp; omega
    unfold putF
    cases d with
    | true =>
      have := h2 (L := L)
      simp only [Bool.not_true, Bool.false_and, Bool.true_or, List.nil_append, Bool.false_eq_true, if_false]
      split
      · simp; omega
      · simp; omega
    | false =>
      simp only [Bool.not_false, Bool.true_and, Bool.false_or] at h1 ⊢
      have h3 : (if p.1 = x.1 then ([] : List FV) else [p]).length ≤ 1 := by split <;> simp
      rw [List.length_append, List.length_append, List.length_cons]
      cases hg : gtS p.1 x.1 with
      | true =>
        have := h2 (L := L)
        simp only [if_true, List.length_singleton]
        omega
      | false =>
        rw [hg] at h1
        simp only [Bool.false_eq_true, if_false, List.length_nil]
        omega
theorem put_c (hok : ∀ p, p ∈ L → FvOk p) (hx : FvOk x) (hl : L.length ≤ 1000000) (h : Hs σ X (VarR lv L :: Cel r [lv, .string (bs zero), av, .int .i64 st] :: R))
    (hk : ∀ lv' w σ', Hs σ' X (VarR lv' (putF x (!(x.2.2.1 || x.2.2.2.1 || x.2.2.2.2)) L) :: Cel r [lv', .string (bs zero), av, .int .i64 st] :: R) → k w σ') :
    kCall PG 81 [pv r, .agg (celF x).toArray] σ k := by
  refine f81 ?_
  have h1 : Hs _ X (VarR lv L :: Cel r [lv, .string (bs zero), av, .int .i64 st] :: Cel σ.n (celF x) :: R) := (h.new (cs := celF x)).un2
  have ex := (h1.front 2 rfl).obj
  (try simp -dsimp (disch := first|exact P5|fail) only [↓P1,P2,↓P4,Q1,Q2,Q3,Q4,Q5,Q6,Q7,Q8,Q9, F81, ex])
  refine grd_and (b := !x.2.2.2.1) (fun _ k' hk' => ?_) ?_
  · (try simp -dsimp (disch := first|exact P5|fail) only [↓P1,P2,↓P4,Q1,Q2,Q3,Q4,Q5,Q6,Q7,Q8,Q9, ex])
    exact hk'
  refine grd_and (b := !x.2.2.2.2) (fun _ k' hk' => ?_) ?_
  · (try simp -dsimp (disch := first|exact P5|fail) only [↓P1,P2,↓P4,Q1,Q2,Q3,Q4,Q5,Q6,Q7,Q8,Q9, ex])
    exact hk'
  have ed : ((!x.2.2.1 && !x.2.2.2.1) && !x.2.2.2.2) = !(x.2.2.1 || x.2.2.2.1 || x.2.2.2.2) := by
    cases x.2.2.1 <;> cases x.2.2.2.1 <;> cases x.2.2.2.2 <;> rfl
  rw [ed]
  generalize hd0 : (!(x.2.2.1 || x.2.2.2.1 || x.2.2.2.2)) = d0 at hk ⊢
  clear ed hd0
  generalize AS.new σ _ = s1 at h1 ⊢
  generalize σ.n = q at h1 ⊢
  clear ex
  have hlen := put_len x (L := L) (d := d0)
  (try simp -dsimp (disch := first|exact P5|fail) only [↓P1,P2,↓P4,Q1,Q2,Q3,Q4,Q5,Q6,Q7,Q8,Q9])
  refine join_by fun J hJ => ?_
  have tail : ∀ (s2 : AS) (u : Value) (d : Bool) (acc : List FV), Hs s2 X (E.Own (α := FV) u acc :: VarR lv L :: Cel r [lv, .string (bs zero), av, .int .i64 st] :: Cel q (celF x) :: R) → acc ++ putF x d [] = putF x d0 L → J [u, .bool d] s2 := by
    intro s2 u d acc h2 hacc
    refine hJ _ _ ?_
    clear hJ
    (try simp -dsimp (disch := first|exact P5|fail) only [↓P1,P2,↓P4,Q1,Q2,Q3,Q4,Q5,Q6,Q7,Q8,Q9])
    refine join_by fun J2 hJ2 => ?_
    have tail2 : ∀ (s3 : AS) (u : Value), Hs s3 X (E.Own (α := FV) u (putF x d0 L) :: VarR lv L :: Cel r [lv, .string (bs zero), av, .int .i64 st] :: Cel q (celF x) :: R) → J2 [u] s3 := by
      intro s3 u h3
      refine hJ2 _ _ ?_
      have h4 := (h3.front 2 rfl)
      obtain ⟨vx, vc, rfl, _⟩ := h3.own
      (simp -dsimp (disch := first|exact P5|fail) only [↓P1,P2,↓P3,Q1,Q2,Q3,Q4,Q5,Q6,Q7,Q8,Q9, h4.obj])
      have h5 := h4.put (cs' := [.slice vx (putF x d0 L).length vc, .string (bs zero), av, .int .i64 st])
      exact hk _ _ _ ((VarR.own (h5.front 1 rfl)).rot3.drop.rot2.drop)
    clear hJ2
    cases d with
    | true =>
      simp only [putF, if_true, List.append_nil] at hacc
      subst hacc
      (try simp -dsimp (disch := first|exact P5|fail) only [↓P1,P2,↓P4,Q1,Q2,Q3,Q4,Q5,Q6,Q7,Q8,Q9])
      exact tail2 _ _ h2
    | false =>
      simp only [putF, Bool.false_eq_true, if_false] at hacc
      have hal : acc.length + 1 ≤ L.length + 1 := by rw [← hacc, List.length_append] at hlen; simpa using hlen
      have ex := (h2.front 3 rfl).obj
      (try simp -dsimp (disch := first|exact P5|fail) only [↓P1,P2,↓P4,Q1,Q2,Q3,Q4,Q5,Q6,Q7,Q8,Q9, ex])
      refine push_by h2 (e := 113) (bytes := 40) (by kernel_rfl) (by kernel_rfl) (rp_fv hx) (by omega) (by unfold maxLen; omega) fun v' s3 h3 => ?_
      rw [hacc] at h3
      exact tail2 _ _ h3
  clear hJ
  refine loop_inv (fun nn xs s2 => ∃ (u : Value) (d : Bool) (j : Nat) (acc : List FV), xs = [u, .bool d, .int .i64 j] ∧ j ≤ L.length ∧ Hs s2 X (E.Own (α := FV) u acc :: VarR lv L :: Cel r [lv, .string (bs zero), av, .int .i64 st] :: Cel q (celF x) :: R) ∧ acc ++ putF x d (L.drop j) = putF x d0 L ∧ nn = L.length - j) _
    ⟨_, _, 0, [], rfl, Nat.zero_le _, h1.own0, rfl, rfl⟩ ?_
  rintro _ _ s2 again ⟨u, d, j, acc, rfl, hj, h2, hacc, rfl⟩ hag
  have er := (h2.front 2 rfl).obj
  obtain ⟨a, g, o, cap, rfl, hc, hm, hat⟩ := VarR.get (h2.front 1 rfl)
  unfold maxLen at hm
  (try simp -dsimp (disch := first|exact P5|fail) only [↓P1,P2,↓P4,Q1,Q2,Q3,Q4,Q5,Q6,Q7,Q8,Q9, er])
  refine join_now ?_
  by_cases hlt : j < L.length
  rotate_left
  · (try simp -dsimp (disch := first|exact P5|fail) only [↓P1,P2,↓P4,Q1,Q2,Q3,Q4,Q5,Q6,Q7,Q8,Q9, er])
    rw [List.drop_of_length_le (by omega)] at hacc
    exact tail s2 _ _ acc h2 hacc
  obtain ⟨rfl, c⟩ := hat j hlt
  have c0 := c 0 _ rfl
  rw [Nat.add_zero] at c0
  rw [List.drop_eq_getElem_cons hlt] at hacc
  simp only [putF] at hacc
  (try simp -dsimp (disch := first|exact P5|fail) only [↓P1,P2,↓P4,Q1,Q2,Q3,Q4,Q5,Q6,Q7,Q8,Q9, er])
  refine join_by fun J5 hJ5 => ?_
  have tail5 : ∀ (s3 : AS) (u : Value) (d : Bool) (acc : List FV), Hs s3 X (E.Own (α := FV) u acc :: VarR (.slice (some ⟨g, o, none⟩) L.length cap) L :: Cel r [.slice (some ⟨g, o, none⟩) L.length cap, .string (bs zero), av, .int .i64 st] :: Cel q (celF x) :: R) → acc ++ putF x d (L.drop (j + 1)) = putF x d0 L → J5 [u, .bool d] s3 := by
    intro s3 u d acc h3 hacc3
    refine hJ5 _ _ ?_
    (try simp -dsimp (disch := first|exact P5|fail) only [↓P1,P2,↓P4,Q1,Q2,Q3,Q4,Q5,Q6,Q7,Q8,Q9])
    exact hag _ _ _ ⟨u, d, j + 1, acc, rfl, hlt, h3, hacc3, rfl⟩ (by omega)
  clear hJ5
  (try simp -dsimp (disch := first|exact P5|fail) only [↓P1,P2,↓P4,Q1,Q2,Q3,Q4,Q5,Q6,Q7,Q8,Q9])
  refine join_by fun J6 hJ6 => ?_
  have tail6 : ∀ (s3 : AS) (u : Value) (d : Bool) (acc : List FV), Hs s3 X (E.Own (α := FV) u acc :: VarR (.slice (some ⟨g, o, none⟩) L.length cap) L :: Cel r [.slice (some ⟨g, o, none⟩) L.length cap, .string (bs zero), av, .int .i64 st] :: Cel q (celF x) :: R) → acc ++ ((if L[j].1 = x.1 then [] else [L[j]]) ++ putF x d (L.drop (j + 1))) = putF x d0 L → J6 [u, .bool d] s3 := by
    intro s3 u d acc h3 hacc3
    refine hJ6 _ _ ?_
    clear hJ6
    have er := (h3.front 2 rfl).obj
    have ex := (h3.front 3 rfl).obj
    obtain ⟨a', g', o', cap', e1, _, _, hat'⟩ := VarR.get (h3.front 1 rfl)
    obtain ⟨rfl, c⟩ := hat' j hlt
    injection e1 with e2 _ _
    injection e2 with e2
    injection e2 with e3 e4 _
    subst e3
    subst e4
    have c0 := c 0 _ rfl
    have c1 := c 1 _ rfl
    have c2 := c 2 _ rfl
    have c3 := c 3 _ rfl
    have c4 := c 4 _ rfl
    rw [Nat.add_zero] at c0
    by_cases hn : L[j].1 = x.1
    · have hT : (L[j].1 = x.1) = True := eq_true hn
      rw [if_pos hn, List.nil_append] at hacc3
      (try simp -dsimp (disch := first|exact P5|fail) only [↓P1,P2,↓P4,Q1,Q2,Q3,Q4,Q5,Q6,Q7,Q8,Q9, er, ex, c0, hT])
      exact tail5 _ _ _ acc h3 hacc3
    · rw [if_neg hn] at hacc3
      (try simp -dsimp (disch := first|exact P5|fail) only [↓P1,P2,↓P4,Q1,Q2,Q3,Q4,Q5,Q6,Q7,Q8,Q9, er, ex, c0, c1, c2, c3, c4, hn])
      have hal : acc.length + 1 ≤ L.length + 1 := by rw [← hacc3] at hlen; simp at hlen; omega
      refine push_by h3 (e := 113) (bytes := 40) (by kernel_rfl) (by kernel_rfl) (rp_fv (hok _ (List.getElem_mem hlt))) (by omega) (by unfold maxLen; omega) fun v' s4 h4 => ?_
      refine tail5 _ _ _ (acc ++ [L[j]]) h4 ?_
      rw [← hacc3]
      simp
  clear hJ6
  have ex := (h2.front 3 rfl).obj
  (try simp -dsimp (disch := first|exact P5|fail) only [↓P1,P2,↓P4,Q1,Q2,Q3,Q4,Q5,Q6,Q7,Q8,Q9])
  refine grd_and (b := gtS L[j].1 x.1) (fun _ k' hk' => ?_) ?_
  · (try simp -dsimp (disch := first|exact P5|fail) only [↓P1,P2,↓P4,Q1,Q2,Q3,Q4,Q5,Q6,Q7,Q8,Q9, er, ex, c0, b_sgt])
    exact hk'
  generalize hb : (!d && gtS L[j].1 x.1) = bb at hacc ⊢
  cases bb with
  | true =>
    have hg : gtS L[j].1 x.1 = true := by
      cases hg : gtS L[j].1 x.1 with
      | true => rfl
      | false => rw [hg] at hb; simp at hb
    rw [hg] at hacc
    simp only [Bool.or_true, if_true] at hacc
    (try simp -dsimp (disch := first|exact P5|fail) only [↓P1,P2,↓P4,Q1,Q2,Q3,Q4,Q5,Q6,Q7,Q8,Q9, ex])
    have hal : acc.length + 1 ≤ L.length + 1 := by rw [← hacc] at hlen; simp at hlen; omega
    refine push_by h2 (e := 113) (bytes := 40) (by kernel_rfl) (by kernel_rfl) (rp_fv hx) (by omega) (by unfold maxLen; omega) fun v' s4 h4 => ?_
    refine tail6 _ _ _ (acc ++ [x]) h4 ?_
    rw [← hacc]
    simp
  | false =>
    simp only [Bool.false_eq_true, if_false, List.nil_append] at hacc
    have hd : (d || gtS L[j].1 x.1) = d := by
      cases d with
      | true => rfl
      | false => simpa using hb
    rw [hd] at hacc
    (try simp -dsimp (disch := first|exact P5|fail) only [↓P1,P2,↓P4,Q1,Q2,Q3,Q4,Q5,Q6,Q7,Q8,Q9])
    exact tail6 _ _ _ acc h2 hacc
end
end Go.Proofs.YtdlimikcgdgfpaaGreatDoor.V08
namespace Go.Proofs.YtdlimikcgdgfpaaGreatDoor.V08
open Tryz renaming prog → PG
open E renaming preR → P1, postR → P2, w_join → P3, w_stop → P4, dsc → P5
open E Go.Lib
abbrev RfL (lv : Value) (r : Nat) (zero : Str) (av : Value) (st : Int) (L : List FV) (R : List Ck) : List Ck := VarR lv L :: Cel r [lv, .string (bs zero), av, .int .i64 st] :: R
structure NmP (S S' : VM) : Prop where
  ok : ∀ p, p ∈ allV S.l → FvOk p
  len : S.l.length ≤ 1000000
  nd : (S.l.map (·.1)).Nodup
  nd' : (S'.l.map (·.1)).Nodup
section
variable {σ σ' : AS} {X : Ce} {R : List Ck} {k : Value → AS → Prop} {r : Nat} {lv av u : Value} {zero n val : Str} {st q i : Int} {L : List FV} {x' : VV} {S : VM} {ms : List Str} {w : Bool}
theorem rput_c (hok : ∀ p, p ∈ allV S.l → FvOk p) (hl : S.l.length ≤ 1000000) (hd : (S.l.map (·.1)).Nodup) (hd' : ((turnV S.l n x').map (·.1)).Nodup) (hn : n.length ≤ maxLen) (hx : x'.val.length ≤ maxLen)
    (h : Hs σ X (RfL lv r zero av st (allV S.l) R)) (hk : ∀ lv' w σ', Hs σ' X (RfL lv' r zero av st (allV (turnV S.l n x')) R) → k w σ') :
    kCall PG 81 [pv r, .agg (celF (fvOf n x')).toArray] σ k := by
  refine put_c hok ⟨hn, hx⟩ (by rw [all_len]; exact hl) h fun lv' w σ' h1 => ?_
  have e := put_all (n := n) (x' := x') hd hd'
  rw [← e] at hk
  exact hk lv' w σ' h1
theorem rset_c (hP : NmP S (setV S n val).2) (hn : n.length ≤ maxLen) (hv : val.length ≤ maxLen) (h : Hs σ X (RfL lv r zero av st (allV S.l) R))
    (hk : ∀ lv' σ', Hs σ' X (RfL lv' r zero av st (allV (setV S n val).2.l) R) → k (.int .i64 (setV S n val).1) σ') :
    kCall PG 47 [pv r, .string (bs n), .string (bs val)] σ k := by
  obtain ⟨hok, hl, hd, hd'⟩ := hP
  unfold setV turnE at hk hd'
  refine f47 ?_
  (try simp -dsimp (disch := first|exact P5|fail) only [↓P1,P2,↓P4,Q1,Q2,Q3,Q4,Q5,Q6,Q7,Q8,Q9, F47])
  refine join_now ?_
  (try simp -dsimp (disch := first|exact P5|fail) only [↓P1,P2,↓P4,Q1,Q2,Q3,Q4,Q5,Q6,Q7,Q8,Q9])
  refine rname_c hn ?_
  cases hN : nameB n with
  | false =>
    rw [if_pos hN] at hk
    (try simp -dsimp (disch := first|exact P5|fail) only [↓P1,P2,↓P4,Q1,Q2,Q3,Q4,Q5,Q6,Q7,Q8,Q9])
    exact hk _ _ h
  | true =>
    rw [if_neg (by rw [hN]; decide)] at hk hd'
    (try simp -dsimp (disch := first|exact P5|fail) only [↓P1,P2,↓P4,Q1,Q2,Q3,Q4,Q5,Q6,Q7,Q8,Q9])
    refine find_c h fun σ1 h1 => ?_
    rw [find_all]
    have h2 := (h1.new (cs := celF zF)).put (cs' := celF (fvOf (nmV S.l n) (getV S.l n)))
    (try simp -dsimp (disch := first|exact P5|fail) only [↓P1,P2,↓P4,Q1,Q2,Q3,Q4,Q5,Q6,Q7,Q8,Q9, h2.obj])
    refine join_now ?_
    cases hr : (getV S.l n).ro with
    | true =>
      rw [hr, if_pos (by rfl)] at hk
      (try simp -dsimp (disch := first|exact P5|fail) only [↓P1,P2,↓P4,Q1,Q2,Q3,Q4,Q5,Q6,Q7,Q8,Q9, h2.obj, hr])
      exact hk _ _ h2.drop
    | false =>
      rw [hr, if_neg (by simp)] at hk hd'
      (try simp -dsimp (disch := first|exact P5|fail) only [↓P1,P2,↓P4,Q1,Q2,Q3,Q4,Q5,Q6,Q7,Q8,Q9, h2.obj, hr])
      refine rput_c (n := n) (x' := ⟨val, true, (getV S.l n).exp, false⟩) hok hl hd hd' hn hv h2.drop fun lv' w σ' h3 => ?_
      (try simp -dsimp (disch := first|exact P5|fail) only [↓P1,P2,↓P3,Q1,Q2,Q3,Q4,Q5,Q6,Q7,Q8,Q9])
      exact hk _ _ h3
def markV (S : VM) (n : Str) (w : Bool) : Int × VM := if w then roV S n else exportV S n
theorem rmark_c (hP : NmP S (markV S n w).2) (hn : n.length ≤ maxLen) (hg : (getV S.l n).val.length ≤ maxLen) (h : Hs σ X (RfL lv r zero av st (allV S.l) R))
    (hk : ∀ lv' σ', Hs σ' X (RfL lv' r zero av st (allV (markV S n w).2.l) R) → k (.int .i64 (markV S n w).1) σ') :
    kCall PG 49 [pv r, .string (bs n), .bool w] σ k := by
  have hF : ¬ nameB n = false → nameB n = true := fun h => by cases hN : nameB n with | true => rfl | false => exact absurd hN h
  cases w with
  | true =>
    obtain ⟨hok, hl, hd, hd'⟩ := hP
    replace hk : ∀ lv' σ', Hs σ' X (RfL lv' r zero av st (allV (roV S n).2.l) R) → k (.int .i64 (roV S n).1) σ' := hk
    replace hd' : ((roV S n).2.l.map (·.1)).Nodup := hd'
    unfold roV turnE at hk hd'
    refine f49 ?_
    (try simp -dsimp (disch := first|exact P5|fail) only [↓P1,P2,↓P4,Q1,Q2,Q3,Q4,Q5,Q6,Q7,Q8,Q9, F49])
    refine join_now ?_
    (try simp -dsimp (disch := first|exact P5|fail) only [↓P1,P2,↓P4,Q1,Q2,Q3,Q4,Q5,Q6,Q7,Q8,Q9])
    refine rname_c hn ?_
    by_cases hN : nameB n = false
    · rw [if_pos hN] at hk
      (try simp -dsimp (disch := first|exact P5|fail) only [↓P1,P2,↓P4,Q1,Q2,Q3,Q4,Q5,Q6,Q7,Q8,Q9, hN])
      exact hk _ _ h
    rw [if_neg hN] at hk hd'
    simp only [Bool.false_and, Bool.false_eq_true, if_false] at hk hd'
    rw [hF hN]
    (try simp -dsimp (disch := first|exact P5|fail) only [↓P1,P2,↓P4,Q1,Q2,Q3,Q4,Q5,Q6,Q7,Q8,Q9])
    refine find_c h fun σ1 h1 => ?_
    rw [find_all]
    have h2 := (h1.new (cs := celF zF)).put (cs' := celF (fvOf (nmV S.l n) (getV S.l n)))
    have h3 := (h1.new (cs := celF zF)).put (cs' := celF (fvOf n (getV S.l n)))
    have h4 := (h1.new (cs := celF zF)).put (cs' := celF (fvOf n ⟨(getV S.l n).val, (getV S.l n).set, (getV S.l n).exp, true⟩))
    (try simp -dsimp (disch := first|exact P5|fail) only [↓P1,P2,↓P4,Q1,Q2,Q3,Q4,Q5,Q6,Q7,Q8,Q9, h2.obj, h3.obj])
    refine join_now ?_
    (try simp -dsimp (disch := first|exact P5|fail) only [↓P1,P2,↓P4,Q1,Q2,Q3,Q4,Q5,Q6,Q7,Q8,Q9, h2.obj, h3.obj, h4.obj])
    refine rput_c (n := n) (x' := ⟨(getV S.l n).val, (getV S.l n).set, (getV S.l n).exp, true⟩) hok hl hd hd' hn hg h4.drop fun lv' w σ' h5 => ?_
    (try simp -dsimp (disch := first|exact P5|fail) only [↓P1,P2,↓P3,Q1,Q2,Q3,Q4,Q5,Q6,Q7,Q8,Q9])
    exact hk _ _ h5
  | false =>
    obtain ⟨hok, hl, hd, hd'⟩ := hP
    replace hk : ∀ lv' σ', Hs σ' X (RfL lv' r zero av st (allV (exportV S n).2.l) R) → k (.int .i64 (exportV S n).1) σ' := hk
    replace hd' : ((exportV S n).2.l.map (·.1)).Nodup := hd'
    unfold exportV turnE at hk hd'
    refine f49 ?_
    (try simp -dsimp (disch := first|exact P5|fail) only [↓P1,P2,↓P4,Q1,Q2,Q3,Q4,Q5,Q6,Q7,Q8,Q9, F49])
    refine join_now ?_
    (try simp -dsimp (disch := first|exact P5|fail) only [↓P1,P2,↓P4,Q1,Q2,Q3,Q4,Q5,Q6,Q7,Q8,Q9])
    refine rname_c hn ?_
    by_cases hN : nameB n = false
    · rw [if_pos hN] at hk
      (try simp -dsimp (disch := first|exact P5|fail) only [↓P1,P2,↓P4,Q1,Q2,Q3,Q4,Q5,Q6,Q7,Q8,Q9, hN])
      exact hk _ _ h
    rw [if_neg hN] at hk hd'
    simp only [Bool.false_and, Bool.false_eq_true, if_false] at hk hd'
    rw [hF hN]
    (try simp -dsimp (disch := first|exact P5|fail) only [↓P1,P2,↓P4,Q1,Q2,Q3,Q4,Q5,Q6,Q7,Q8,Q9])
    refine find_c h fun σ1 h1 => ?_
    rw [find_all]
    have h2 := (h1.new (cs := celF zF)).put (cs' := celF (fvOf (nmV S.l n) (getV S.l n)))
    have h3 := (h1.new (cs := celF zF)).put (cs' := celF (fvOf n (getV S.l n)))
    have h4 := (h1.new (cs := celF zF)).put (cs' := celF (fvOf n ⟨(getV S.l n).val, (getV S.l n).set, true, (getV S.l n).ro⟩))
    (try simp -dsimp (disch := first|exact P5|fail) only [↓P1,P2,↓P4,Q1,Q2,Q3,Q4,Q5,Q6,Q7,Q8,Q9, h2.obj, h3.obj])
    refine join_now ?_
    (try simp -dsimp (disch := first|exact P5|fail) only [↓P1,P2,↓P4,Q1,Q2,Q3,Q4,Q5,Q6,Q7,Q8,Q9, h2.obj, h3.obj, h4.obj])
    refine rput_c (n := n) (x' := ⟨(getV S.l n).val, (getV S.l n).set, true, (getV S.l n).ro⟩) hok hl hd hd' hn hg h4.drop fun lv' w σ' h5 => ?_
    (try simp -dsimp (disch := first|exact P5|fail) only [↓P1,P2,↓P3,Q1,Q2,Q3,Q4,Q5,Q6,Q7,Q8,Q9])
    exact hk _ _ h5
end
end Go.Proofs.YtdlimikcgdgfpaaGreatDoor.V08
namespace Go.Proofs.YtdlimikcgdgfpaaGreatDoor.V08
open Tryz renaming prog → PG
open E renaming preR → P1, postR → P2, w_join → P3, w_stop → P4, dsc → P5
open E Go.Lib
theorem drop_all {l : Str} {q : UInt8 → Bool} (h : l.dropWhile q = []) : ∀ c, c ∈ l → q c = true := by
  intro c hc
  have e : l.takeWhile q = l := by
    have := List.takeWhile_append_dropWhile (p := q) (l := l)
    rw [h, List.append_nil] at this
    exact this
  have := List.all_takeWhile (p := q) (l := l)
  rw [e] at this
  exact List.all_eq_true.1 this c hc
theorem trim_all {p : Str} (h : trimS p digs = []) : ∀ c, c ∈ p → digs.contains c = true := by
  intro c hc
  unfold trimS trimLeftS at h
  by_cases hm : c ∈ trimRightS p digs
  · exact drop_all h c hm
  · unfold trimRightS at hm
    have hc' : c ∈ p.reverse := by rw [List.mem_reverse]; exact hc
    rw [← List.takeWhile_append_dropWhile (p := (digs.contains ·)) (l := p.reverse)] at hc'
    rcases List.mem_append.1 hc' with h2 | h2
    · exact List.all_eq_true.1 (List.all_takeWhile (p := (digs.contains ·)) (l := p.reverse)) c h2
    · exact absurd (List.mem_reverse.2 h2) hm
def refP (l : List Str) (p : Str) : Str × Bool := match (List.range l.length).find? (fun (i : Nat) => decide (itoa ((i : Int) + 1) = p)) with
  | some i => (l.getD i [], true)
  | none => ([], false)
def d20 : List Str := [[49], [50], [51], [52], [53], [54], [55], [56], [57], [49, 48], [49, 49], [49, 50], [49, 51], [49, 52], [49, 53], [49, 54], [49, 55], [49, 56], [49, 57], [50, 48]]
theorem d20_at {i : Nat} (hi : i < 20) : itoa ((i : Int) + 1) = d20.getD i [] := by
  have e : itoa ((i : Int) + 1) = decDigits (i + 1) := by
    have : ((i : Int) + 1) = ((i + 1 : Nat) : Int) := by omega
    rw [this]
    unfold itoa
    rw [if_neg (by omega), Int.toNat_natCast]
  have h1 : ∀ i : Fin 20, (if i.val + 1 < 10 then [UInt8.ofNat (48 + (i.val + 1))] else [UInt8.ofNat (48 + (i.val + 1) / 10), UInt8.ofNat (48 + (i.val + 1) % 10)]) = d20.getD i.val [] := by decide
  have h2 := h1 ⟨i, hi⟩
  simp only at h2
  rw [e, ← h2]
  by_cases h : i + 1 < 10
  · rw [if_pos h, decDigits_one h]
  · rw [if_neg h, decDigits_two h (by omega)]
theorem d20_all : ∀ i : Fin 20, trimS (d20.getD i.val []) digs = [] ∧ (d20.getD i.val []).head? ≠ some 48 ∧ d20.getD i.val [] ≠ [] := by decide
def okIs (e : NumEnd Int) (v : Int) : Bool := match e with | .ok u => u == v | _ => false
theorem d20_num0 : ∀ i : Fin 20, okIs (atoiAll (d20.getD i.val [])) ((i.val : Int) + 1) = true := by decide
theorem num_at {i : Nat} (hi : i < 20) : atoiAll (itoa ((i : Int) + 1)) = .ok ((i : Int) + 1) := by
  have h := d20_num0 ⟨i, hi⟩
  simp only at h
  rw [← d20_at hi] at h
  unfold okIs at h
  cases ha : atoiAll (itoa ((i : Int) + 1)) with
  | ok u => rw [ha] at h; simp at h; rw [h]
  | _ => rw [ha] at h; simp at h
theorem itoa_is {i : Nat} (hi : i < 20) : trimS (itoa ((i : Int) + 1)) digs = [] ∧ (itoa ((i : Int) + 1)).head? ≠ some 48 ∧ itoa ((i : Int) + 1) ≠ [] := by
  rw [d20_at hi]
  exact d20_all ⟨i, hi⟩
theorem pu_ge : ∀ {l : Str} {acc u : Nat}, parseUint10 acc l = .ok u → acc ≤ u
  | [], acc, u, h => by simp only [parseUint10] at h; injection h with h; omega
  | c :: r, acc, u, h => by
    simp only [parseUint10] at h
    split at h
    · split at h
      · cases h
      · split at h
        · cases h
        · have := pu_ge h; omega
    · cases h
theorem dig_rng {c : UInt8} (h : digs.contains c = true) : 48 ≤ c.toNat ∧ c.toNat ≤ 57 := by
  simp at h
  rcases h with rfl | rfl | rfl | rfl | rfl | rfl | rfl | rfl | rfl | rfl <;> decide
theorem num_is {p : Str} {v : Int} (h0 : p ≠ []) (ht : trimS p digs = []) (h48 : p.head? ≠ some 48) (hv : atoiAll p = .ok v) (h20 : v ≤ 20) : 1 ≤ v ∧ itoa v = p := by
  have hall := trim_all ht
  cases p with
  | nil => exact absurd rfl h0
  | cons c r =>
    have hc := dig_rng (hall c (by simp))
    have hc48 : ¬ c = 48 := fun e => h48 (by simp [e])
    have hc49 : 49 ≤ c.toNat := by
      by_cases h : c.toNat = 48
      · exact absurd (UInt8.toNat_inj.1 h) hc48
      · omega
    rw [atoiAll_plain c r (by omega) (by omega)] at hv
    unfold parseMag at hv
    rw [if_neg (by simp)] at hv
    cases hp : parseUint10 0 (c :: r) with
    | ok u =>
      rw [hp] at hv
      unfold signless at hv
      simp only at hv
      split at hv
      · cases hv
      · injection hv with hv
        have hu : u ≤ 20 := by omega
        simp only [parseUint10, hc, and_self, if_true] at hp
        simp only [Nat.zero_mul, Nat.zero_add] at hp
        rw [if_neg (by omega), if_neg (by omega)] at hp
        cases r with
        | nil =>
          simp only [parseUint10] at hp
          injection hp with hp
          refine ⟨by omega, ?_⟩
          have e : v = ((c.toNat - 48 : Nat) : Int) := by omega
          rw [e]
          unfold itoa
          rw [if_neg (by omega), Int.toNat_natCast, decDigits, dif_pos (by omega)]
          congr 1
          apply UInt8.toNat_inj.1
          simp
          omega
        | cons d e =>
          have hd := dig_rng (hall d (by simp))
          simp only [parseUint10, hd, and_self, if_true] at hp
          rw [if_neg (by omega), if_neg (by omega)] at hp
          cases e with
          | nil =>
            simp only [parseUint10] at hp
            injection hp with hp
            refine ⟨by omega, ?_⟩
            have e : v = (((c.toNat - 48) * 10 + (d.toNat - 48) : Nat) : Int) := by omega
            rw [e]
            unfold itoa
            rw [if_neg (by omega), Int.toNat_natCast, decDigits, dif_neg (by omega), decDigits, dif_pos (by omega)]
            have e1 : UInt8.ofNat (48 + ((c.toNat - 48) * 10 + (d.toNat - 48)) / 10) = c := by
              apply UInt8.toNat_inj.1
              simp
              omega
            have e2 : UInt8.ofNat (48 + ((c.toNat - 48) * 10 + (d.toNat - 48)) % 10) = d := by
              apply UInt8.toNat_inj.1
              simp
              omega
            rw [e1, e2]
            rfl
          | cons x y =>
            have hx := dig_rng (hall x (by simp))
            simp only [parseUint10, hx, and_self, if_true] at hp
            rw [if_neg (by omega), if_neg (by omega)] at hp
            have := pu_ge hp
            omega
    | _ => rw [hp] at hv; cases hv
theorem refP_none {l : List Str} {p : Str} (h : ∀ i, i < l.length → itoa ((i : Int) + 1) ≠ p) : refP l p = ([], false) := by
  unfold refP
  rw [List.find?_eq_none.2]
  intro i hi
  simpa using h i (List.mem_range.1 hi)
theorem refP_some {l : List Str} {p : Str} {i : Nat} (hi : i < l.length) (hl : l.length ≤ 20) (h : itoa ((i : Int) + 1) = p) : refP l p = (l[i], true) := by
  unfold refP
  have hf : (List.range l.length).find? (fun (i : Nat) => decide (itoa ((i : Int) + 1) = p)) = some i := by
    cases hf : (List.range l.length).find? (fun (i : Nat) => decide (itoa ((i : Int) + 1) = p)) with
    | none =>
      have := List.find?_eq_none.1 hf i (List.mem_range.2 hi)
      simp [h] at this
    | some j =>
      have h1 := List.find?_some hf
      have h2 := List.mem_range.1 (List.mem_of_find?_eq_some hf)
      simp only [decide_eq_true_iff] at h1
      have h3 := num_at (i := j) (by omega)
      have h4 := num_at (i := i) (by omega)
      rw [h1, ← h, h4] at h3
      injection h3 with h3
      congr 1
      omega
  rw [hf]
  simp only
  rw [List.getD_eq_getElem?_getD, List.getElem?_eq_getElem hi]
  rfl
theorem join_len {l : List Str} (h : ∀ s, s ∈ l → s.length ≤ 200) : (Lib.join l [32]).length ≤ l.length * 201 := by
  cases l with
  | nil => simp [join_nil]
  | cons y r =>
    rw [join_cons, List.length_append]
    have h1 := h y (by simp)
    have h2 : (joinTail [32] r).length ≤ r.length * 201 := by
      have hr : ∀ s, s ∈ r → s.length ≤ 200 := fun s hs => h s (by simp [hs])
      clear h h1
      unfold joinTail
      induction r with
      | nil => simp
      | cons z r ih =>
        have := ih (fun s hs => hr s (by simp [hs]))
        have := hr z (by simp)
        simp only [List.map_cons, List.flatten_cons, List.length_append, List.length_cons, List.length_nil]
        omega
    simp only [List.length_cons]
    omega
end Go.Proofs.YtdlimikcgdgfpaaGreatDoor.V08
namespace Go.Proofs.YtdlimikcgdgfpaaGreatDoor.V08
open Tryz renaming prog → PG
open E renaming preR → P1, postR → P2, w_join → P3, w_stop → P4, dsc → P5
open E Go.Lib
def numF (s : Str) (most : Int) : Int × Int := if s = [] ∨ trimS s digs ≠ [] then (0, 10) else match atoiAll s with
  | .ok v => if most < v then (0, 3) else (v, 0)
  | _ => (0, 3)
theorem pu_dig : ∀ {l : Str} {acc : Nat}, (∀ c, c ∈ l → digs.contains c = true) → parseUint10 acc l ≠ NumEnd.syntax
  | [], acc, h => by simp only [parseUint10]; exact fun h => by cases h
  | c :: r, acc, h => by
    have hc := dig_rng (h c (by simp))
    have hr := pu_dig (l := r) (acc := acc * 10 + (c.toNat - 48)) (fun d hd => h d (by simp [hd]))
    simp only [parseUint10, hc, and_self, if_true]
    split
    · exact fun h => by cases h
    · split
      · exact fun h => by cases h
      · exact hr
theorem atoi_dig {p : Str} (h0 : p ≠ []) (ht : trimS p digs = []) : atoiAll p ≠ NumEnd.syntax := by
  have hall := trim_all ht
  cases p with
  | nil => exact absurd rfl h0
  | cons c r =>
    have hc := dig_rng (hall c (by simp))
    rw [atoiAll_plain c r (by omega) (by omega)]
    unfold parseMag
    rw [if_neg (by simp)]
    have := pu_dig (acc := 0) hall
    cases hp : parseUint10 0 (c :: r) with
    | range => unfold signless; exact fun h => by cases h
    | ok u =>
      unfold signless
      simp only
      split
      · exact fun h => by cases h
      · exact fun h => by cases h
    | _ => exact absurd hp this
section
variable {σ σ' : AS} {X : Ce} {R : List Ck} {k : Value → AS → Prop} {s : Str} {te : Nat} {pe u : Value} {most : Int} {l : List Str}
theorem atoi2_c (hX : X 5 0 = some (.iface te pe)) (h : Hs σ X R) (hl : s.length ≤ 1000000) (hs : atoiAll s ≠ NumEnd.syntax)
    (hk : ∀ e j, (∀ v, atoiAll s = .ok v → e = .tuple #[.int .i64 v, .nilIface]) → (atoiAll s = .range → ∃ m t p, e = .tuple #[.int .i64 m, .iface t p]) → k e (σ.up j)) : kCall PG 240 [.string (bs s)] σ k := by
  have e : (bs s).data.toList = s := by simp [bs]
  have hsz : (bs s).size = s.length := by show s.toArray.size = _; simp
  cases ha : atoiAll s with
  | ok v =>
    refine below_by (v := .tuple #[.int .i64 v, .nilIface]) (fun w hw => ?_) (fun j => hk _ j (fun v' h' => by rw [ha] at h'; injection h' with h'; rw [h']) (fun h' => by rw [ha] at h'; cases h'))
    refine Calls.mono (Any.strconv_Atoi_ok Tryz.laysC172 (bs s) (by omega) v (by rw [e]; exact ha) w) fun e' w' ⟨h1, h2⟩ => ⟨h1, ?_⟩
    rcases h2 with rfl | ⟨t, rfl⟩
    · exact RowKit.Below.refl _ _
    · exact Go.Lib.bytesWorld_below _ _ _
  | range =>
    refine below_ex (Q := fun e => ∃ m t p, e = .tuple #[.int .i64 m, .iface t p]) (fun w hw => ?_) (fun v j hv => hk _ j (fun v' h' => by rw [ha] at h'; cases h') (fun _ => hv))
    exact Calls.mono (Any.strconv_Atoi_range Tryz.laysC172 (bs s) (by omega) (by rw [e]; exact ha) (.iface te pe) w (hw.ld (h.x _ _ _ hX)) (.inr ⟨_, _, rfl⟩)) fun e' w' ⟨N, h1, _, _, h4⟩ => ⟨⟨_, h1, _, _, _, rfl⟩, h4⟩
  | _ => exact absurd ha hs
theorem number2_c (hX : X 5 0 = some (.iface te pe)) (h : Hs σ X R) (hl : s.length ≤ 1000000) (hk : ∀ σ', Hs σ' X R → k (.tuple #[.int .i64 (numF s most).1, .int .i64 (numF s most).2]) σ') :
    kCall PG 198 [.string (bs s), .int .i64 most] σ k := by
  refine f198 ?_
  unfold numF at hk
  by_cases h0 : s = []
  · subst h0
    rw [if_pos (.inl rfl)] at hk
    (simp -dsimp (disch := first|exact P5|fail) only [↓P1,P2,↓P3,Q1,Q2,Q3,Q4,Q5,Q6,Q7,Q8,Q9, F198])
    exact hk _ h
  (simp -dsimp (disch := first|exact P5|fail) only [↓P1,P2,↓P3,Q1,Q2,Q3,Q4,Q5,Q6,Q7,Q8,Q9, F198, h0])
  refine trim_c (by unfold maxLen; omega) fun j => ?_
  by_cases ht : trimS s digs = []
  · rw [if_neg (by rintro (h1 | h1); exact h0 h1; exact h1 ht)] at hk
    rw [ht]
    (simp -dsimp (disch := first|exact P5|fail) only [↓P1,P2,↓P3,Q1,Q2,Q3,Q4,Q5,Q6,Q7,Q8,Q9])
    refine atoi2_c hX (h.up j) hl (atoi_dig h0 ht) fun e j' h1 h2 => ?_
    have hh := h.up (j + j')
    cases ha : atoiAll s with
    | ok v =>
      rw [ha] at hk
      have e1 := h1 v ha
      subst e1
      by_cases hm : most < v
      · simp only [if_pos hm] at hk
        (simp -dsimp (disch := first|exact P5|fail) only [↓P1,P2,↓P3,Q1,Q2,Q3,Q4,Q5,Q6,Q7,Q8,Q9, hm])
        exact hk _ hh
      · simp only [if_neg hm] at hk
        (simp -dsimp (disch := first|exact P5|fail) only [↓P1,P2,↓P3,Q1,Q2,Q3,Q4,Q5,Q6,Q7,Q8,Q9, hm])
        exact hk _ hh
    | range =>
      rw [ha] at hk
      obtain ⟨m, t, p, rfl⟩ := h2 ha
      (simp -dsimp (disch := first|exact P5|fail) only [↓P1,P2,↓P3,Q1,Q2,Q3,Q4,Q5,Q6,Q7,Q8,Q9])
      exact hk _ hh
    | _ => exact absurd ha (atoi_dig h0 ht)
  · rw [if_pos (.inr ht)] at hk
    (simp -dsimp (disch := first|exact P5|fail) only [↓P1,P2,↓P3,Q1,Q2,Q3,Q4,Q5,Q6,Q7,Q8,Q9, ht])
    exact hk _ (h.up j)
theorem ext156 : Builder.Extra PG Tryz.lays156_ren where
  sizeBuilder := by kernel_rfl
  liesBuilder := by kernel_rfl
  t5 := Tryz.underlying5
  a5 := Tryz.isAgg5
  z5 := Tryz.sizeOf5
  v5 := Tryz.zeroValue5
  infoByte := by kernel_rfl
  cellsByte := by kernel_rfl
  sizeByte := by kernel_rfl
  neB5 := by decide
theorem join_c (h : Hs σ X (StrR u l :: R)) (hl : ∀ s, s ∈ l → s.length ≤ 200) (hl2 : l.length ≤ 20) (hk : ∀ σ', Hs σ' X (StrR u l :: R) → k (.string (bs (Lib.join l [32]))) σ') : kCall PG 137 [.string (bs [32]), u] σ k := by
  obtain ⟨a, g, o, cap, rfl, hle, hcm, hn, hat⟩ := StrR.get h
  refine f137 ?_
  (simp -dsimp (disch := first|exact P5|fail) only [↓P1,P2,↓P3,Q1,Q2,Q3,Q4,Q5,Q6,Q7,Q8,Q9, F137])
  refine below_by (v := .string (bs (Lib.join l [32]))) (fun w hw => ?_) (fun j => ?_)
  · have e0 : l = [] ∨ ∃ y r, l = y :: r := by cases l with | nil => exact .inl rfl | cons y r => exact .inr ⟨y, r, rfl⟩
    rcases e0 with rfl | ⟨y, r, hyr⟩
    · refine Calls.mono (Any.strings_Join_none Tryz.lays156 ext156 a cap (bs [32]) w) fun e w' ⟨he, hw'⟩ => ⟨he, hw' ▸ RowKit.Below.refl _ _⟩
    · have ha : a = some ⟨g, o, none⟩ := (hat 0 (by rw [hyr]; simp)).1
      subst ha
      have hm : (l.map bs).map (·.data.toList) = l := by
        rw [List.map_map]
        have : ((fun x : ByteArray => x.data.toList) ∘ bs) = id := by funext s; simp [bs]
        rw [this, List.map_id]
      have hc : ∀ (j : Nat) x, (l.map bs)[j]? = some x → w.cell? ⟨g, o + j, none⟩ = some (.string x) := by
        intro j x hx
        rw [List.getElem?_map] at hx
        cases hj : l[j]? with
        | none => rw [hj] at hx; cases hx
        | some y =>
          rw [hj] at hx
          injection hx with hx
          subst hx
          obtain ⟨hjl, rfl⟩ := List.getElem?_eq_some_iff.1 hj
          exact hw.ld ((ld_ob _ _).trans (hat j hjl).2.1)
      have := Any.strings_Join Tryz.lays156 ext156 g o cap (l.map bs) (bs [32]) w hc (by
        have := hc 0 (bs y) (by rw [hyr]; rfl)
        exact block_lt_of_cell this) (by simp; omega) (by simpa using hle) (by
        rw [hm]
        have e2 : (bs [32]).data.toList = [32] := by simp [bs]
        rw [e2]
        have := join_len hl
        omega)
      rw [hm, List.length_map] at this
      exact this
  · exact hk _ (h.up j)
end
end Go.Proofs.YtdlimikcgdgfpaaGreatDoor.V08
namespace Go.Proofs.YtdlimikcgdgfpaaGreatDoor.V08
open Tryz renaming prog → PG
open E renaming preR → P1, postR → P2, w_join → P3, w_stop → P4, dsc → P5
open E Go.Lib
theorem numF_ok {p : Str} {most : Int} (h : (numF p most).2 = 0) : p ≠ [] ∧ trimS p digs = [] ∧ ∃ v, atoiAll p = .ok v ∧ v ≤ most ∧ (numF p most).1 = v := by
  unfold numF at h ⊢
  by_cases h0 : p = [] ∨ trimS p digs ≠ []
  · rw [if_pos h0] at h; cases h
  · rw [if_neg h0] at h
    rw [if_neg h0]
    refine ⟨fun h1 => h0 (.inl h1), Classical.byContradiction fun h1 => h0 (.inr h1), ?_⟩
    cases ha : atoiAll p with
    | ok v =>
      rw [ha] at h
      simp only at h ⊢
      by_cases hv : most < v
      · rw [if_pos hv] at h; cases h
      · rw [if_neg hv]
        exact ⟨v, rfl, by omega, rfl⟩
    | _ => rw [ha] at h; cases h
theorem numF_bad {l : List Str} {p : Str} (h20 : l.length ≤ 20) (h : ¬ (numF p l.length).2 = 0) : refP l p = ([], false) := by
  refine refP_none fun i hi e => h ?_
  subst e
  have hi20 : i < 20 := by omega
  obtain ⟨h1, _, h3⟩ := itoa_is hi20
  unfold numF
  rw [if_neg (by rintro (h4 | h4); exact h3 h4; exact h4 h1), num_at hi20]
  simp only
  rw [if_neg (by omega)]
theorem numF_good {l : List Str} {p : Str} (h20 : l.length ≤ 20) (h : (numF p l.length).2 = 0) (h48 : p.head? ≠ some 48) : ∃ (i : Nat) (hi : i < l.length), (numF p l.length).1 = (i : Int) + 1 ∧ refP l p = (l[i], true) := by
  obtain ⟨h0, ht, v, hv, hm, e⟩ := numF_ok h
  obtain ⟨h1, h2⟩ := num_is h0 ht h48 hv (by omega)
  have hi : (v - 1).toNat < l.length := by omega
  refine ⟨(v - 1).toNat, hi, by omega, refP_some hi h20 ?_⟩
  have : (((v - 1).toNat : Nat) : Int) + 1 = v := by omega
  rw [this]
  exact h2
theorem ref_48 {l : List Str} {p : Str} (h20 : l.length ≤ 20) (h48 : p.head? = some 48) : refP l p = ([], false) := by
  refine refP_none fun i hi e => ?_
  subst e
  exact (itoa_is (show i < 20 by omega)).2.1 h48
def paramV (S : VM) (zero p : Str) : Str × Bool :=
  if p = [35] then (itoa S.ar.length, true) else if p = [63] then (itoa S.st, true) else if p = [64] ∨ p = [42] then (Lib.join S.ar [32], decide (0 < S.ar.length))
  else if nameB p = true then ((getV S.l p).val, (getV S.l p).set) else if p = [48] then (zero, true) else refP S.ar p
structure InvP (S : VM) : Prop where
  st : inI64 S.st
  tx : TextsP S.ar
section
variable {σ σ' : AS} {X : Ce} {R : List Ck} {k : Value → AS → Prop} {p zero : Str} {te v r g i : Nat} {pe u av lv : Value} {S : VM} {l : List Str} {o : Go.Obj} {L : List FV} {st : Int}
theorem numbered_c (hX : X 5 0 = some (.iface te pe)) (h : Hs σ X (Vm v zero S :: R)) (hl : p.length ≤ 200) (h20 : S.ar.length ≤ 20)
    (hk : ∀ σ', Hs σ' X (Vm v zero S :: R) → k (.tuple #[.string (bs (if p = [48] then (zero, true) else refP S.ar p).1), .bool (if p = [48] then (zero, true) else refP S.ar p).2]) σ') :
    kCall PG 138 [pv v, .string (bs p)] σ k := by
  obtain ⟨av, m, h1⟩ := Vs.open h
  refine f138 ?_
  have h2 : Hs σ X (StrR av S.ar :: Cel v [.string (bs zero), av, .map (some m), .int .i64 S.st] :: Mp (κ := Str) m none (encL S.l) :: R) := h1.front 2 rfl
  obtain ⟨a, g, o, cap, rfl, hle, hcm, _⟩ := StrR.get h2
  unfold maxLen at hcm
  (simp -dsimp (disch := first|exact P5|fail) only [↓P1,P2,↓P3,Q1,Q2,Q3,Q4,Q5,Q6,Q7,Q8,Q9, F138, h1.obj])
  refine number2_c hX h1 (by omega) fun σ1 h3 => ?_
  by_cases h48 : p = [48]
  · subst h48
    rw [if_pos rfl] at hk
    (simp -dsimp (disch := first|exact P5|fail) only [↓P1,P2,↓P3,Q1,Q2,Q3,Q4,Q5,Q6,Q7,Q8,Q9, h3.obj])
    exact hk _ (Vs.close h3)
  rw [if_neg h48] at hk
  by_cases hb : (numF p S.ar.length).2 = 0
  · obtain ⟨h0, _⟩ := numF_ok hb
    cases p with
    | nil => exact absurd rfl h0
    | cons c q =>
      by_cases hc : c = 48
      · subst hc
        rw [ref_48 h20 rfl] at hk
        (simp -dsimp (disch := first|exact P5|fail) only [↓P1,P2,↓P3,Q1,Q2,Q3,Q4,Q5,Q6,Q7,Q8,Q9, h48, hb])
        exact hk _ (Vs.close h3)
      · obtain ⟨i, hi, e1, e2⟩ := numF_good h20 hb (by simpa using hc)
        rw [e2] at hk
        have hcn : ¬ (c.toNat : Int) = 48 := fun h => hc (UInt8.toNat_inj.1 (by show c.toNat = 48; omega))
        have h4 : Hs σ1 X (StrR (.slice a S.ar.length cap) S.ar :: Cel v [.string (bs zero), .slice a S.ar.length cap, .map (some m), .int .i64 S.st] :: Mp (κ := Str) m none (encL S.l) :: R) := h3.front 2 rfl
        obtain ⟨a', g', o', cap', e6, _, _, _, hat⟩ := StrR.get h4
        obtain ⟨rfl, hcl, _⟩ := hat i hi
        injection e6 with e7 e8 e9
        subst e7
        rw [hb, e1]
        have e10 : ((i : Int) + 1 - 1).toNat = i := by omega
        (simp -dsimp (disch := first|exact P5|fail) only [↓P1,P2,↓P3,Q1,Q2,Q3,Q4,Q5,Q6,Q7,Q8,Q9, h48, Option.getD_some, hcn, h3.obj, e10, hcl])
        exact hk _ (Vs.close h3)
  · rw [numF_bad h20 hb] at hk
    (simp -dsimp (disch := first|exact P5|fail) only [↓P1,P2,↓P3,Q1,Q2,Q3,Q4,Q5,Q6,Q7,Q8,Q9, h48, hb])
    exact hk _ (Vs.close h3)
theorem param2_c (T : VarAt PG "internal/strconv.uint64pow10" g o powV) (hX : X 5 0 = some (.iface te pe)) (h : Hs σ X (Vm v zero S :: R)) (hg : R[i]? = some (Oth g o)) (hl : p.length ≤ 200) (hI : InvP S)
    (hk : ∀ σ', Hs σ' X (Vm v zero S :: R) → k (.tuple #[.string (bs (paramV S zero p).1), .bool (paramV S zero p).2]) σ') :
    kCall PG 104 [pv v, .string (bs p)] σ k := by
  have hlen := hI.tx.1
  obtain ⟨av, m, h1⟩ := Vs.open h
  refine f104 ?_
  have h2 : Hs σ X (StrR av S.ar :: Cel v [.string (bs zero), av, .map (some m), .int .i64 S.st] :: Mp (κ := Str) m none (encL S.l) :: R) := h1.front 2 rfl
  obtain ⟨a, g', o', cap, rfl, hle, hcm, _⟩ := StrR.get h2
  unfold maxLen at hcm
  unfold paramV at hk
  by_cases h35 : p = [35]
  · subst h35
    rw [if_pos rfl] at hk
    (simp -dsimp (disch := first|exact P5|fail) only [↓P1,P2,↓P3,Q1,Q2,Q3,Q4,Q5,Q6,Q7,Q8,Q9, F104, h1.obj])
    refine text_c T (by unfold inI64; omega) (i + 1) h hg fun σ1 h3 => ?_
    exact hk _ h3
  rw [if_neg h35] at hk
  by_cases h63 : p = [63]
  · subst h63
    rw [if_pos rfl] at hk
    (simp -dsimp (disch := first|exact P5|fail) only [↓P1,P2,↓P3,Q1,Q2,Q3,Q4,Q5,Q6,Q7,Q8,Q9, F104, h1.obj])
    refine text_c T hI.st (i + 1) h hg fun σ1 h3 => ?_
    exact hk _ h3
  rw [if_neg h63] at hk
  have join : ∀ (J : Value → AS → Prop), (∀ σ3, Hs σ3 X (StrR (.slice a S.ar.length cap) S.ar :: Cel v [.string (bs zero), .slice a S.ar.length cap, .map (some m), .int .i64 S.st] :: Mp (κ := Str) m none (encL S.l) :: R) → J (.string (bs (Lib.join S.ar [32]))) σ3) → kCall PG 137 [.string (bs [32]), .slice a S.ar.length cap] σ J := fun J hJ => join_c h2 hI.tx.2 hlen hJ
  by_cases h64 : p = [64] ∨ p = [42]
  · rw [if_pos h64] at hk
    have fin : ∀ σ3, Hs σ3 X (StrR (.slice a S.ar.length cap) S.ar :: Cel v [.string (bs zero), .slice a S.ar.length cap, .map (some m), .int .i64 S.st] :: Mp (κ := Str) m none (encL S.l) :: R) → k (.tuple #[.string (bs (Lib.join S.ar [32])), .bool (decide (0 < S.ar.length))]) σ3 := fun σ3 h3 => hk _ (Vs.close ((h3.front 2 rfl).front 2 rfl))
    have e1 : decide ((0 : Int) < (S.ar.length : Int)) = decide (0 < S.ar.length) := by simp
    rcases h64 with rfl | rfl
    · (simp -dsimp (disch := first|exact P5|fail) only [↓P1,P2,↓P3,Q1,Q2,Q3,Q4,Q5,Q6,Q7,Q8,Q9, F104, h1.obj])
      refine join _ fun σ3 h3 => ?_
      have e3 := (h3.front 1 rfl).obj
      (simp -dsimp (disch := first|exact P5|fail) only [↓P1,P2,↓P3,Q1,Q2,Q3,Q4,Q5,Q6,Q7,Q8,Q9, e3, e1])
      exact fin _ h3
    · have e42 : ¬ ([42] : Str) = [64] := by decide
      (simp -dsimp (disch := first|exact P5|fail) only [↓P1,P2,↓P3,Q1,Q2,Q3,Q4,Q5,Q6,Q7,Q8,Q9, F104, h1.obj, e42])
      refine join _ fun σ3 h3 => ?_
      have e3 := (h3.front 1 rfl).obj
      (simp -dsimp (disch := first|exact P5|fail) only [↓P1,P2,↓P3,Q1,Q2,Q3,Q4,Q5,Q6,Q7,Q8,Q9, e3, e1])
      exact fin _ h3
  rw [if_neg h64] at hk
  have h64' : ¬ p = [64] := fun h => h64 (.inl h)
  have h42' : ¬ p = [42] := fun h => h64 (.inr h)
  (simp -dsimp (disch := first|exact P5|fail) only [↓P1,P2,↓P3,Q1,Q2,Q3,Q4,Q5,Q6,Q7,Q8,Q9, F104, h35, h63, h64', h42'])
  refine name_c (by unfold maxLen; omega) ?_
  cases hN : nameB p with
  | true =>
    rw [if_pos hN] at hk
    (simp -dsimp (disch := first|exact P5|fail) only [↓P1,P2,↓P3,Q1,Q2,Q3,Q4,Q5,Q6,Q7,Q8,Q9])
    refine get_c h fun σ1 h3 => ?_
    (simp -dsimp (disch := first|exact P5|fail) only [↓P1,P2,↓P3,Q1,Q2,Q3,Q4,Q5,Q6,Q7,Q8,Q9])
    exact hk _ h3
  | false =>
    rw [if_neg (by rw [hN]; decide)] at hk
    (simp -dsimp (disch := first|exact P5|fail) only [↓P1,P2,↓P3,Q1,Q2,Q3,Q4,Q5,Q6,Q7,Q8,Q9])
    refine numbered_c hX h hl hlen fun σ1 h3 => ?_
    (simp -dsimp (disch := first|exact P5|fail) only [↓P1,P2,↓P3,Q1,Q2,Q3,Q4,Q5,Q6,Q7,Q8,Q9])
    exact hk _ h3
end
end Go.Proofs.YtdlimikcgdgfpaaGreatDoor.V08
namespace Go.Proofs.YtdlimikcgdgfpaaGreatDoor.V08
open Tryz renaming prog → PG
open E renaming preR → P1, postR → P2, w_join → P3, w_stop → P4, dsc → P5
open E Go.Lib
theorem InvP.turn {S : VM} {n : Str} {w : Bool} {x' : VV} (h : InvP S) : InvP (turnE S n w x').2 := by
  unfold turnE
  split
  · exact h
  split
  · exact h
  · exact ⟨h.st, h.tx⟩
section
variable {σ σ' : AS} {X : Ce} {R : List Ck} {k : Value → AS → Prop} {te g i : Nat} {a u pe : Value} {p : Str} {ops : List OpV} {o : Go.Obj}
theorem Vm.nd' {v : Nat} {zero : Str} {S : VM} (h : Hs σ X (Vm v zero S :: R)) : (S.l.map (·.1)).Nodup := by
  obtain ⟨av, m, h1⟩ := Vs.open h
  exact keys_nodup (Mp.keys (κ := Str) (h1.front 1 rfl))
end
end Go.Proofs.YtdlimikcgdgfpaaGreatDoor.V08
namespace Go.Proofs.YtdlimikcgdgfpaaGreatDoor.V08
open Tryz renaming prog → PG
open E renaming preR → P1, postR → P2, w_join → P3, w_stop → P4, dsc → P5
open E Go.Lib
section
variable {σ σ' : AS} {X : Ce} {R : List Ck} {k : Value → AS → Prop} {v v2 m : Nat} {u av : Value} {zero n val s : Str} {ms l : List Str} {i q most : Int} {S S2 : VM} {w st : Bool} {x' : VV} {ops more : List OpV}
theorem mclone_c {L : List (Str × Value)} (h : Hs σ X (Mp (κ := Str) m none L :: R)) (hk : ∀ q σ', Hs σ' X (Mp (κ := Str) q none L :: Mp (κ := Str) m none L :: R) → k (.map (some q)) σ') :
    kCall PG 63 [.map (some m)] σ k := by
  refine f63 ?_
  (simp -dsimp (disch := first|exact P5|fail) only [↓P1,P2,↓P3,Q1,Q2,Q3,Q4,Q5,Q6,Q7,Q8,Q9, F63])
  refine mki_by (by kernel_rfl) ?_
  refine cln_by (by kernel_rfl) (by kernel_rfl) h fun q σ1 h1 => ?_
  refine tas_by (by kernel_rfl) ?_
  (try simp -dsimp (disch := first|exact P5|fail) only [↓P1,P2,↓P3,Q1,Q2,Q3,Q4,Q5,Q6,Q7,Q8,Q9])
  exact hk _ _ h1
theorem copy_c (h : Hs σ X (Vm v zero S :: R)) (hal : S.ar.length ≤ 1000000) (hk : ∀ v' σ', Hs σ' X (Vm v' zero S :: Vm v zero S :: R) → k (pv v') σ') : kCall PG 34 [pv v] σ k := by
  obtain ⟨av, m, h1⟩ := Vs.open h
  refine f34 ?_
  have h2 : Hs σ X (StrR av S.ar :: Cel v [.string (bs zero), av, .map (some m), .int .i64 S.st] :: Mp (κ := Str) m none (encL S.l) :: R) := h1.front 2 rfl
  obtain ⟨a, g, o, cap, rfl, _⟩ := StrR.get h2
  have h3 := (h1.new (cs := [.string (bs []), .slice none 0 0, .map none, .int .i64 0])).put (cs' := [.string (bs zero), .slice a S.ar.length cap, .map (some m), .int .i64 S.st])
  (simp -dsimp (disch := first|exact P5|fail) only [↓P1,P2,↓P3,Q1,Q2,Q3,Q4,Q5,Q6,Q7,Q8,Q9, F34, h1.obj, h3.obj1])
  have h4 : Hs _ X (StrR (.slice a S.ar.length cap) S.ar :: Cel σ.n [.string (bs zero), .slice a S.ar.length cap, .map (some m), .int .i64 S.st] :: Cel v [.string (bs zero), .slice a S.ar.length cap, .map (some m), .int .i64 S.st] :: Mp (κ := Str) m none (encL S.l) :: R) := h3.front 3 rfl
  refine clone_c h4 (TxS.row h4) hal fun v' s1 h5 => ?_
  obtain ⟨a', g', o', cap', rfl, _⟩ := StrR.get h5
  have h6 : Hs s1 X (Cel σ.n [.string (bs zero), .slice a S.ar.length cap, .map (some m), .int .i64 S.st] :: StrR (.slice a' S.ar.length cap') S.ar :: StrR (.slice a S.ar.length cap) S.ar :: Cel v [.string (bs zero), .slice a S.ar.length cap, .map (some m), .int .i64 S.st] :: Mp (κ := Str) m none (encL S.l) :: R) := h5.front 2 rfl
  have h7 := h6.put (cs' := [.string (bs zero), .slice a' S.ar.length cap', .map (some m), .int .i64 S.st])
  (simp -dsimp (disch := first|exact P5|fail) only [↓P1,P2,↓P3,Q1,Q2,Q3,Q4,Q5,Q6,Q7,Q8,Q9, h6.obj, (h7.front 3 rfl).obj])
  refine mclone_c (h7.front 4 rfl) fun q s2 h8 => ?_
  (simp -dsimp (disch := first|exact P5|fail) only [↓P1,P2,↓P3,Q1,Q2,Q3,Q4,Q5,Q6,Q7,Q8,Q9, (h8.front 2 rfl).obj])
  have h9 := (h8.front 2 rfl).put (cs' := [.string (bs zero), .slice a' S.ar.length cap', .map (some q), .int .i64 S.st])
  have k1 : Hs _ X (Cel σ.n [.string (bs zero), .slice a' S.ar.length cap', .map (some q), .int .i64 S.st] :: Mp (κ := Str) q none (encL S.l) :: Mp (κ := Str) m none (encL S.l) :: StrR (.slice a' S.ar.length cap') S.ar :: StrR (.slice a S.ar.length cap) S.ar :: Cel v [.string (bs zero), .slice a S.ar.length cap, .map (some m), .int .i64 S.st] :: R) := h9
  have k2 : Hs _ X (Cel v [.string (bs zero), .slice a S.ar.length cap, .map (some m), .int .i64 S.st] :: Mp (κ := Str) m none (encL S.l) :: StrR (.slice a S.ar.length cap) S.ar :: Cel σ.n [.string (bs zero), .slice a' S.ar.length cap', .map (some q), .int .i64 S.st] :: Mp (κ := Str) q none (encL S.l) :: StrR (.slice a' S.ar.length cap') S.ar :: R) := ((k1.front 4 rfl).front 3 rfl).front 5 rfl
  have k3 := Vs.close k2
  have k4 : Hs _ X (Cel σ.n [.string (bs zero), .slice a' S.ar.length cap', .map (some q), .int .i64 S.st] :: Mp (κ := Str) q none (encL S.l) :: StrR (.slice a' S.ar.length cap') S.ar :: Vs v zero S.ar S.st S.l :: R) := ((k3.front 3 rfl).front 3 rfl).front 3 rfl
  exact hk _ _ (Vs.close k4)
end
end Go.Proofs.YtdlimikcgdgfpaaGreatDoor.V08
namespace Go.Proofs.YtdlimikcgdgfpaaGreatDoor
open Tryz renaming prog → PG
open E renaming preR → P1, postR → P2, w_join → P3, w_stop → P4, dsc → P5
open E Go.Lib S09 G02 V08 W05
abbrev sh : Str := [115, 104]
section
variable {σ σ' : AS} {X : Ce} {R : List Ck} {k : Value → AS → Prop} {p q : Nat} {zero t : Str} {ua wv v : Value} {s s' : XS} {inner : Bool} {x : Pt} {ans : List Str}
theorem pc_ok {t : Str} {a b c : Bool} (ht : t.length ≤ maxLen) : Rp.rp (α := Pc) X (t, a, b, c) [.string (bs t), .bool a, .bool b, .bool c] := pc_rp (p := (t, a, b, c)) ht
theorem str_at {l : List Str} (h : RepL X ua l) : ∃ a b o cap, ua = .slice a l.length cap ∧ l.length ≤ cap ∧ cap ≤ maxLen ∧ ∀ i (hi : i < l.length), a = some ⟨b, o, none⟩ ∧ X b (o + i) = some (.string (bs l[i])) ∧ l[i].length ≤ maxLen := by
  obtain ⟨a, b, o, cap, h1, h2, h3, h4⟩ := h.get
  refine ⟨a, b, o, cap, h1, h2, h3, fun i hi => ?_⟩
  obtain ⟨h5, cs, h6, _, h7⟩ := h4 i hi
  obtain ⟨rfl, h8⟩ := h6
  have := h7 0 _ rfl
  rw [Nat.add_zero] at this
  exact ⟨h5, by rw [show o + i = o + i * 1 from by omega]; exact this, h8⟩
end
def VarK (g : Nat) (o : Go.Obj) (ans : List Str) (x : Pt) (s s' : XS) (l : List Pc) : Prop :=
  ∀ {σ : AS} {X : Ce} {R : List Ck} {k : Value → AS → Prop} {p q i : Nat} {ua v : Value}, A03.Law X g o → R[i]? = some (Oth g o) → RepL X ua ans → RpPt X x (ptC x v) → Hs σ X (XL p q sh ua s R) →
    (∀ u X' σ', Ce.le X X' → RepL X' u l → Hs σ' X' (XL p q sh ua s' R) → k u σ') → kCall PG 67 [pw p, ptV x v] σ k
def SumK (g : Nat) (o : Go.Obj) (ans : List Str) (t : Str) (s s' : XS) (r : Str) : Prop :=
  ∀ {σ : AS} {X : Ce} {R : List Ck} {k : Value → AS → Prop} {p q i : Nat} {ua : Value}, A03.Law X g o → R[i]? = some (Oth g o) → RepL X ua ans → Hs σ X (XL p q sh ua s R) →
    (∀ X' σ', Ce.le X X' → Hs σ' X' (XL p q sh ua s' R) → k (.string (bs r)) σ') → kCall PG 66 [pw p, .string (bs t)] σ k
def PcsK (g : Nat) (o : Go.Obj) (ans : List Str) (w : List Pt) (inner : Bool) (s s' : XS) (l : List Pc) : Prop :=
  ∀ {σ : AS} {X : Ce} {R : List Ck} {k : Value → AS → Prop} {p q i : Nat} {ua wv : Value}, A03.Law X g o → R[i]? = some (Oth g o) → RepL X ua ans → RepL X wv w → Hs σ X (XL p q sh ua s R) →
    (∀ u X' σ', Ce.le X X' → RepL X' u l → Hs σ' X' (XL p q sh ua s' R) → k u σ') → kCall PG 35 [pw p, wv, .bool inner] σ k
def PartC (g : Nat) (o : Go.Obj) (ans : List Str) (x : Pt) (inner : Bool) (s s' : XS) (l : List Pc) : Prop :=
  (x.kind = 1 ∧ s' = s ∧ l = [(x.text, x.quote, inner && !x.quote, false)]) ∨
  (x.kind = 3 ∧ ∃ hi : s.used < ans.length, s' = ⟨s.v, s.used + 1, s.e, s.wants, s.need, s.msg⟩ ∧ l = [(cutR 10 ans[s.used], x.quote, !x.quote, false)]) ∨
  (x.kind = 3 ∧ s.used = ans.length ∧ s' = ⟨s.v, s.used, s.e, true, x.text, s.msg⟩ ∧ l = []) ∨
  (x.kind = 4 ∧ ∃ t, SumK g o ans x.text s s' t ∧ t.length ≤ maxLen ∧ l = [(t, x.quote, !x.quote, false)]) ∨
  (x.kind = 2 ∧ VarK g o ans x s s' l ∧ l.length ≤ 1000000)
theorem pcs_one {g : Nat} {o : Go.Obj} {ans : List Str} {x : Pt} {inner : Bool} {s s' : XS} {l : List Pc} (hp : PartC g o ans x inner s s' l) (ho : s.over = false) : PcsK g o ans [x] inner s s' l := by
  intro σ X R k p q i ua wv L hg hua hw h hk
  obtain ⟨a, b, o', cap, rfl, hc, hm, hat⟩ := pts_at hw
  obtain ⟨rfl, w0, g0, _, ht, _, _, c0, c1, c2, c3, c4, c5⟩ := hat 0 (by simp)
  simp only [List.getElem_cons_zero, Nat.zero_mul, Nat.add_zero] at g0 ht c0 c1 c2 c3 c4 c5
  unfold maxLen at hm
  refine f35 ?_
  (try simp -dsimp (disch := first|exact P5|fail) only [↓P1,P2,↓P4,Q1,Q2,Q3,Q4,Q5,Q6,Q7,Q8,Q9, F35])
  refine join_by fun J1 hJ1 => ?_
  (try simp -dsimp (disch := first|exact P5|fail) only [↓P1,P2,↓P4,Q1,Q2,Q3,Q4,Q5,Q6,Q7,Q8,Q9])
  refine loop_inv (fun nn xs s1 => (nn = 1 ∧ xs = [.slice none 0 0, .int .i64 0] ∧ σ = s1) ∨ (nn = 0 ∧ ∃ u X1, xs = [u, .int .i64 1] ∧ Ce.le X X1 ∧ Hs s1 X1 (E.Own (α := Pc) u l :: XL p q sh ua s' R))) _ (.inl ⟨rfl, rfl, rfl⟩) ?_
  rintro _ _ s1 again (⟨rfl, rfl, rfl⟩ | ⟨rfl, u, X1, rfl, le1, h1⟩) hag
  · obtain ⟨va, vn, vc, rfl⟩ := g0.val
    have d0 := h.ldx c0
    have d1 := h.ldx c1
    have d2 := h.ldx c2
    have d3 := h.ldx c3
    have d4 := h.ldx c4
    have d5 := h.ldx c5
    have e1 : (0 : Int) < (([x] : List Pt).length : Int) := by simp
    (try simp -dsimp (disch := first|exact P5|fail) only [↓P1,P2,↓P4,Q1,Q2,Q3,Q4,Q5,Q6,Q7,Q8,Q9, e1])
    refine join_by fun J3 hJ3 => ?_
    (try simp -dsimp (disch := first|exact P5|fail) only [↓P1,P2,↓P4,Q1,Q2,Q3,Q4,Q5,Q6,Q7,Q8,Q9, e1])
    refine hJ3 _ _ ?_
    clear hJ3
    (try simp -dsimp (disch := first|exact P5|fail) only [↓P1,P2,↓P4,Q1,Q2,Q3,Q4,Q5,Q6,Q7,Q8,Q9])
    refine join_by fun J4 hJ4 => ?_
    have h2 := (h.new (cs := [.int .i64 0, .string (bs []), .bool false, .int .i64 0, .bool false, .slice none 0 0])).put (cs' := ptC x (.slice va vn vc))
    (try simp -dsimp (disch := first|exact P5|fail) only [↓P1,P2,↓P4,Q1,Q2,Q3,Q4,Q5,Q6,Q7,Q8,Q9, d0, d1, d2, d3, d4, d5])
    clear d0 d1 d2 d3 d4 d5 hat
    generalize hs2 : AS.put _ σ.n _ = s2 at h2 ⊢
    generalize σ.n = p9 at h2 ⊢
    refine join_by fun J5 hJ5 => ?_
    refine over_c (h2.drop) ?_
    rw [ho]
    (try simp -dsimp (disch := first|exact P5|fail) only [↓P1,P2,↓P4,Q1,Q2,Q3,Q4,Q5,Q6,Q7,Q8,Q9])
    refine hJ5 _ _ ?_
    clear hJ5
    have fin : ∀ v' X3 s3, Ce.le X X3 → Hs s3 X3 (E.Own (α := Pc) v' l :: XL p q sh ua s' R) → J4 [v'] s3 := by
      intro v' X3 s3 le3 h3
      refine hJ4 _ _ ?_
      (try simp -dsimp (disch := first|exact P5|fail) only [↓P1,P2,↓P4,Q1,Q2,Q3,Q4,Q5,Q6,Q7,Q8,Q9])
      exact hag _ _ _ (.inr ⟨rfl, v', X3, rfl, le3, h3⟩) (by omega)
    clear hJ4 hag
    have one : ∀ {X2 : Ce} {s5 : AS} {R2 : List Ck} {t : Str} {b1 b2 : Bool} (C2 : Value → AS → Prop), Hs s5 X2 R2 → t.length ≤ maxLen → (∀ v' s6, Hs s6 X2 (E.Own (α := Pc) v' [(t, b1, b2, false)] :: R2) → C2 v' s6) →
        kApp PG 82 82 (.slice none 0 0) (.slice (some ⟨s5.n, 0, none⟩) 1 1) (s5.new (.cells [.string (bs t), .bool b1, .bool b2, .bool false])) C2 := by
      intro X2 s5 R2 t b1 b2 C2 h5 htl hC
      exact push_by (h5.own0 (α := Pc)) (e := 134) (bytes := 24) (by kernel_rfl) (by kernel_rfl) (pc_ok htl) (by decide) (by unfold maxLen; decide) hC
    rcases hp with ⟨hx, rfl, rfl⟩ | ⟨hx, hi, rfl, rfl⟩ | ⟨hx, hi, rfl, rfl⟩ | ⟨hx, t, hS, htl, rfl⟩ | ⟨hx, hV, hll⟩
    · cases inner <;>
      · (try simp -dsimp (disch := first|exact P5|fail) only [↓P1,P2,↓P4,Q1,Q2,Q3,Q4,Q5,Q6,Q7,Q8,Q9, h2.obj, hx])
        refine one _ h2.drop ht fun v' s3 h3 => ?_
        (try simp -dsimp (disch := first|exact P5|fail) only [↓P1,P2,↓P4,Q1,Q2,Q3,Q4,Q5,Q6,Q7,Q8,Q9])
        exact fin _ X _ (Ce.le_refl _) h3
    · obtain ⟨aa, ab, ao, acap, rfl, ac, am, aat⟩ := str_at hua
      obtain ⟨rfl, a0, al⟩ := aat s.used hi
      unfold maxLen at am
      have f0 := h2.ldx a0
      have hne : ¬ ((s.used : Int) = (ans.length : Int)) := by omega
      have hlt : (s.used : Int) < (ans.length : Int) := by omega
      (try simp -dsimp (disch := first|exact P5|fail) only [↓P1,P2,↓P4,Q1,Q2,Q3,Q4,Q5,Q6,Q7,Q8,Q9, h2.obj, hx])
      refine join_by fun J6 hJ6 => ?_
      (try simp -dsimp (disch := first|exact P5|fail) only [↓P1,P2,↓P4,Q1,Q2,Q3,Q4,Q5,Q6,Q7,Q8,Q9, h2.obj1, hne])
      refine hJ6 _ _ ?_
      clear hJ6
      (try simp -dsimp (disch := first|exact P5|fail) only [↓P1,P2,↓P4,Q1,Q2,Q3,Q4,Q5,Q6,Q7,Q8,Q9, h2.obj, h2.obj1, f0, hlt])
      refine trimr_c al ?_
      (try simp -dsimp (disch := first|exact P5|fail) only [↓P1,P2,↓P4,Q1,Q2,Q3,Q4,Q5,Q6,Q7,Q8,Q9, h2.obj])
      refine xpiece_c h2 g0 fun s3 h3 => ?_
      have hcl := cutR_len 10 ans[s.used]
      (try simp -dsimp (disch := first|exact P5|fail) only [↓P1,P2,↓P4,Q1,Q2,Q3,Q4,Q5,Q6,Q7,Q8,Q9])
      refine one _ h3 (by omega) fun v' s4 h4 => ?_
      (try simp -dsimp (disch := first|exact P5|fail) only [↓P1,P2,↓P4,Q1,Q2,Q3,Q4,Q5,Q6,Q7,Q8,Q9, h4.obj2])
      exact fin _ X _ (Ce.le_refl _) (h4.put2.swap.drop)
    · obtain ⟨aa, ab, ao, acap, rfl, ac, am, aat⟩ := str_at hua
      have heq : ((s.used : Int) = (ans.length : Int)) := by omega
      (try simp -dsimp (disch := first|exact P5|fail) only [↓P1,P2,↓P4,Q1,Q2,Q3,Q4,Q5,Q6,Q7,Q8,Q9, h2.obj, hx])
      refine join_by fun J6 hJ6 => ?_
      (try simp -dsimp (disch := first|exact P5|fail) only [↓P1,P2,↓P4,Q1,Q2,Q3,Q4,Q5,Q6,Q7,Q8,Q9, h2.obj, h2.obj1, heq])
      have h3 := h2.put1 (cs' := [pw q, .slice aa ans.length acap, .int .i64 s.used, .int .i64 s.e, .bool true, .string (bs s.need), .string (bs s.msg)])
      have h3o := h3.obj
      have h3p := h3.obj1
      rw [heq] at h3o h3p
      (try simp -dsimp (disch := first|exact P5|fail) only [↓P1,P2,↓P4,Q1,Q2,Q3,Q4,Q5,Q6,Q7,Q8,Q9, h2.obj1, Option.map_some, h3o, h3p])
      rw [← heq]
      exact hk _ X _ (Ce.le_refl _) ⟨none, 0, rfl, Nat.le_refl _, by unfold maxLen; omega, .inl rfl⟩ (h2.put1 (cs' := [pw q, .slice aa ans.length acap, .int .i64 s.used, .int .i64 s.e, .bool true, .string (bs x.text), .string (bs s.msg)])).drop
    · (try simp -dsimp (disch := first|exact P5|fail) only [↓P1,P2,↓P4,Q1,Q2,Q3,Q4,Q5,Q6,Q7,Q8,Q9, h2.obj, hx])
      rw [← hx]
      refine hS L (R := Cel p9 (ptC x (.slice va vn vc)) :: R) (i := i + 1) (by simpa using hg) hua h2.un2 fun X3 s3 le3 h3 => ?_
      (try simp -dsimp (disch := first|exact P5|fail) only [↓P1,P2,↓P4,Q1,Q2,Q3,Q4,Q5,Q6,Q7,Q8,Q9, h3.obj2])
      refine xpiece_c h3 (g0.mono le3) fun s4 h4 => ?_
      (try simp -dsimp (disch := first|exact P5|fail) only [↓P1,P2,↓P4,Q1,Q2,Q3,Q4,Q5,Q6,Q7,Q8,Q9])
      refine one _ h4 htl fun v' s5 h5 => ?_
      (try simp -dsimp (disch := first|exact P5|fail) only [↓P1,P2,↓P4,Q1,Q2,Q3,Q4,Q5,Q6,Q7,Q8,Q9])
      exact fin _ X3 _ le3 ((h5.front 3 rfl).drop)
    · (try simp -dsimp (disch := first|exact P5|fail) only [↓P1,P2,↓P4,Q1,Q2,Q3,Q4,Q5,Q6,Q7,Q8,Q9, h2.obj, hx])
      rw [← hx]
      refine hV L (by simpa using hg) hua g0 h2.drop fun u X3 s3 le3 r3 h3 => ?_
      refine appL_by (h3.own0 (α := Pc)) r3 (e := 134) (bytes := 24) (by kernel_rfl) (by kernel_rfl) (by rw [List.length_nil]; omega) (by unfold maxLen; rw [List.length_nil]; omega) fun v' s4 h4 => ?_
      (try simp -dsimp (disch := first|exact P5|fail) only [↓P1,P2,↓P4,Q1,Q2,Q3,Q4,Q5,Q6,Q7,Q8,Q9])
      exact fin _ X3 _ le3 h4
  · (try simp -dsimp (disch := first|exact P5|fail) only [↓P1,P2,↓P4,Q1,Q2,Q3,Q4,Q5,Q6,Q7,Q8,Q9])
    refine join_by fun J3 hJ3 => ?_
    (try simp -dsimp (disch := first|exact P5|fail) only [↓P1,P2,↓P4,Q1,Q2,Q3,Q4,Q5,Q6,Q7,Q8,Q9])
    refine hJ1 _ _ ?_
    (try simp -dsimp (disch := first|exact P5|fail) only [↓P1,P2,↓P4,Q1,Q2,Q3,Q4,Q5,Q6,Q7,Q8,Q9])
    obtain ⟨X', le, r, h2⟩ := h1.keep
    exact hk _ _ _ (Ce.le_trans le1 le) r h2
end Go.Proofs.YtdlimikcgdgfpaaGreatDoor
namespace Go.Proofs.YtdlimikcgdgfpaaGreatDoor
open Tryz renaming prog → PG
open E renaming preR → P1, postR → P2, w_join → P3, w_stop → P4, dsc → P5
open E Go.Lib S09 G02 V08 W05
theorem join1_len {l : List Str} {sep : Str} (hs : sep.length ≤ 1) (h : ∀ s, s ∈ l → s.length ≤ 200) : (Lib.join l sep).length ≤ l.length * 201 := by
  cases l with
  | nil => simp [join_nil]
  | cons y r =>
    rw [join_cons, List.length_append]
    have h1 := h y (by simp)
    have h2 : (joinTail sep r).length ≤ r.length * 201 := by
      have hr : ∀ s, s ∈ r → s.length ≤ 200 := fun s hs => h s (by simp [hs])
      clear h h1
      unfold joinTail
      induction r with
      | nil => simp
      | cons z r ih =>
        have := ih (fun s hs => hr s (by simp [hs]))
        have := hr z (by simp)
        simp only [List.map_cons, List.flatten_cons, List.length_append, List.length_cons]
        omega
    simp only [List.length_cons]
    omega
def giveX (s : XS) (x : Pt) (vals : List Str) : List Pc := if x.text = [42] ∧ x.quote = true then [(Lib.join vals ((ifsX s).take 1), true, false, false)] else brks x.quote vals
section
variable {σ σ' : AS} {X : Ce} {R : List Ck} {k : Value → AS → Prop} {p q : Nat} {zero t : Str} {ua wv v u xv : Value} {s s' : XS} {inner : Bool} {x : Pt} {ans l : List Str}
theorem joins_c {sep : Str} (hs : sep.length ≤ 1) (h : Hs σ X (StrR u l :: R)) (hl : ∀ s, s ∈ l → s.length ≤ 200) (hl2 : l.length ≤ 20) (hk : ∀ σ', Hs σ' X (StrR u l :: R) → k (.string (bs (Lib.join l sep))) σ') : kCall PG 137 [.string (bs sep), u] σ k := by
  obtain ⟨a, g, o, cap, rfl, hle, hcm, hn, hat⟩ := StrR.get h
  refine f137 ?_
  (simp -dsimp (disch := first|exact P5|fail) only [↓P1,P2,↓P3,Q1,Q2,Q3,Q4,Q5,Q6,Q7,Q8,Q9, F137])
  refine below_by (v := .string (bs (Lib.join l sep))) (fun w hw => ?_) (fun j => ?_)
  · have e0 : l = [] ∨ ∃ y r, l = y :: r := by cases l with | nil => exact .inl rfl | cons y r => exact .inr ⟨y, r, rfl⟩
    rcases e0 with rfl | ⟨y, r, hyr⟩
    · refine Calls.mono (Any.strings_Join_none Tryz.lays156 ext156 a cap (bs sep) w) fun e w' ⟨he, hw'⟩ => ⟨he, hw' ▸ RowKit.Below.refl _ _⟩
    · have ha : a = some ⟨g, o, none⟩ := (hat 0 (by rw [hyr]; simp)).1
      subst ha
      have hm : (l.map bs).map (·.data.toList) = l := by
        rw [List.map_map]
        have : ((fun x : ByteArray => x.data.toList) ∘ bs) = id := by funext s; simp [bs]
        rw [this, List.map_id]
      have hc : ∀ (j : Nat) x, (l.map bs)[j]? = some x → w.cell? ⟨g, o + j, none⟩ = some (.string x) := by
        intro j x hx
        rw [List.getElem?_map] at hx
        cases hj : l[j]? with
        | none => rw [hj] at hx; cases hx
        | some y =>
          rw [hj] at hx
          injection hx with hx
          subst hx
          obtain ⟨hjl, rfl⟩ := List.getElem?_eq_some_iff.1 hj
          exact hw.ld ((ld_ob _ _).trans (hat j hjl).2.1)
      have := Any.strings_Join Tryz.lays156 ext156 g o cap (l.map bs) (bs sep) w hc (by
        have := hc 0 (bs y) (by rw [hyr]; rfl)
        exact block_lt_of_cell this) (by simp; omega) (by simpa using hle) (by
        rw [hm]
        have e2 : (bs sep).data.toList = sep := by simp [bs]
        rw [e2]
        have := join1_len hs hl
        omega)
      have e2 : (bs sep).data.toList = sep := by simp [bs]
      rw [hm, List.length_map] at this
      exact this
  · exact hk _ (h.up j)
theorem given_c (h : Hs σ X (StrR u l :: R)) (hx : RpPt X x (ptC x v)) (hn : ¬ (x.text = [42] ∧ x.quote = true)) (hll : l.length ≤ 1000) (hk : ∀ w X' σ', Ce.le X X' → RepL X' w (brks x.quote l) → Hs σ' X' (StrR u l :: R) → k w σ') :
    kCall PG 106 [xv, ptV x v, u] σ k := by
  obtain ⟨va, vn, vc, rfl⟩ := hx.val
  obtain ⟨a, g, o, cap, rfl, hle, hcm, hn0, hat⟩ := StrR.get h
  unfold maxLen at hcm
  refine f106 ?_
  have h1 := h.new (cs := ptC x (.slice va vn vc))
  (try simp -dsimp (disch := first|exact P5|fail) only [↓P1,P2,↓P4,Q1,Q2,Q3,Q4,Q5,Q6,Q7,Q8,Q9, F106])
  generalize hs1 : AS.new σ _ = s1 at h1 ⊢
  generalize σ.n = p4 at h1 ⊢
  refine join_by fun J1 hJ1 => ?_
  (try simp -dsimp (disch := first|exact P5|fail) only [↓P1,P2,↓P4,Q1,Q2,Q3,Q4,Q5,Q6,Q7,Q8,Q9, h1.obj])
  have go : J1 [] s1 := by
    refine hJ1 _ _ ?_
    clear hJ1
    (try simp -dsimp (disch := first|exact P5|fail) only [↓P1,P2,↓P4,Q1,Q2,Q3,Q4,Q5,Q6,Q7,Q8,Q9])
    refine join_by fun J2 hJ2 => ?_
    (try simp -dsimp (disch := first|exact P5|fail) only [↓P1,P2,↓P4,Q1,Q2,Q3,Q4,Q5,Q6,Q7,Q8,Q9])
    refine loop_inv (fun nn xs s2 => ∃ (j : Nat) (ov : Value), xs = [ov, .int .i64 j] ∧ j ≤ l.length ∧ Hs s2 X (E.Own (α := Pc) ov (brks x.quote (l.take j)) :: Cel p4 (ptC x (.slice va vn vc)) :: StrR (.slice a l.length cap) l :: R) ∧ nn = l.length - j) _ ⟨0, _, rfl, Nat.zero_le _, h1.own0, rfl⟩ ?_
    clear h1 hs1 h
    rintro _ _ s2 again ⟨j, ov, rfl, hj, h2, rfl⟩ hag
    by_cases hlt : j < l.length
    · obtain ⟨a', g', o', cap', e6, _, _, _, hat'⟩ := StrR.get (h2.front 2 rfl)
      injection e6 with e7 e8 e9
      subst e7
      obtain ⟨rfl, hcl, hla⟩ := hat' j hlt
      have hbl := brks_len x.quote (l.take j)
      rw [List.length_take] at hbl
      (try simp -dsimp (disch := first|exact P5|fail) only [↓P1,P2,↓P4,Q1,Q2,Q3,Q4,Q5,Q6,Q7,Q8,Q9])
      refine join_by fun J4 hJ4 => ?_
      (try simp -dsimp (disch := first|exact P5|fail) only [↓P1,P2,↓P4,Q1,Q2,Q3,Q4,Q5,Q6,Q7,Q8,Q9])
      refine hJ4 _ _ ?_
      clear hJ4
      (try simp -dsimp (disch := first|exact P5|fail) only [↓P1,P2,↓P4,Q1,Q2,Q3,Q4,Q5,Q6,Q7,Q8,Q9])
      refine join_by fun J5 hJ5 => ?_
      (try simp -dsimp (disch := first|exact P5|fail) only [↓P1,P2,↓P4,Q1,Q2,Q3,Q4,Q5,Q6,Q7,Q8,Q9, hcl])
      refine join_by fun J6 hJ6 => ?_
      have t6 : ∀ s3 ov', Hs s3 X (E.Own (α := Pc) ov' (if l.take j = [] then [] else brks x.quote (l.take j) ++ [([], false, false, true)]) :: Cel p4 (ptC x (.slice va vn vc)) :: StrR (.slice (some ⟨g', o', none⟩) l.length cap) l :: R) → J6 [ov'] s3 := by
        intro s3 ov' h3
        refine hJ6 _ _ ?_
        (try simp -dsimp (disch := first|exact P5|fail) only [↓P1,P2,↓P4,Q1,Q2,Q3,Q4,Q5,Q6,Q7,Q8,Q9, h3.obj1])
        refine xpiece_c h3 hx fun s4 h4 => ?_
        (try simp -dsimp (disch := first|exact P5|fail) only [↓P1,P2,↓P4,Q1,Q2,Q3,Q4,Q5,Q6,Q7,Q8,Q9])
        refine push_by h4 (e := 134) (bytes := 24) (by kernel_rfl) (by kernel_rfl) (pc_ok hla) (by split <;> simp <;> omega) (by unfold maxLen; split <;> simp <;> omega) fun v' s5 h5 => ?_
        (try simp -dsimp (disch := first|exact P5|fail) only [↓P1,P2,↓P4,Q1,Q2,Q3,Q4,Q5,Q6,Q7,Q8,Q9])
        refine hJ5 _ _ ?_
        (try simp -dsimp (disch := first|exact P5|fail) only [↓P1,P2,↓P4,Q1,Q2,Q3,Q4,Q5,Q6,Q7,Q8,Q9])
        refine hag _ _ _ ⟨j + 1, v', rfl, hlt, ?_, rfl⟩ (by omega)
        rw [List.take_succ_eq_append_getElem hlt, brks_snoc]
        exact h5
      clear hJ6 hJ5 hag
      by_cases hj0 : j = 0
      · subst hj0
        (try simp -dsimp (disch := first|exact P5|fail) only [↓P1,P2,↓P4,Q1,Q2,Q3,Q4,Q5,Q6,Q7,Q8,Q9])
        exact t6 _ _ h2
      · have hj1 : (0 : Int) < (j : Int) := by omega
        have hne : ¬ l.take j = [] := by intro h; have := congrArg List.length h; rw [List.length_take, List.length_nil] at this; omega
        (try simp -dsimp (disch := first|exact P5|fail) only [↓P1,P2,↓P4,Q1,Q2,Q3,Q4,Q5,Q6,Q7,Q8,Q9, hj1])
        refine push_by h2 (e := 134) (bytes := 24) (by kernel_rfl) (by kernel_rfl) (pc_ok (t := []) (by unfold maxLen; decide)) (by omega) (by unfold maxLen; omega) fun v' s5 h5 => ?_
        (try simp -dsimp (disch := first|exact P5|fail) only [↓P1,P2,↓P4,Q1,Q2,Q3,Q4,Q5,Q6,Q7,Q8,Q9])
        refine t6 _ _ ?_
        rw [if_neg hne]
        exact h5
    · obtain rfl : j = l.length := by omega
      rw [List.take_length] at h2
      (try simp -dsimp (disch := first|exact P5|fail) only [↓P1,P2,↓P4,Q1,Q2,Q3,Q4,Q5,Q6,Q7,Q8,Q9])
      refine join_by fun J4 hJ4 => ?_
      (try simp -dsimp (disch := first|exact P5|fail) only [↓P1,P2,↓P4,Q1,Q2,Q3,Q4,Q5,Q6,Q7,Q8,Q9])
      refine hJ2 _ _ ?_
      (try simp -dsimp (disch := first|exact P5|fail) only [↓P1,P2,↓P4,Q1,Q2,Q3,Q4,Q5,Q6,Q7,Q8,Q9])
      obtain ⟨X', le, r, h3⟩ := h2.keep
      exact hk _ _ _ le r h3.drop
  by_cases h42 : x.text = [42]
  · have hq : x.quote = false := by
      cases hq : x.quote with
      | false => rfl
      | true => exact absurd ⟨h42, hq⟩ hn
    (try simp -dsimp (disch := first|exact P5|fail) only [↓P1,P2,↓P4,Q1,Q2,Q3,Q4,Q5,Q6,Q7,Q8,Q9, h1.obj, h42, hq])
    exact go
  · (try simp -dsimp (disch := first|exact P5|fail) only [↓P1,P2,↓P4,Q1,Q2,Q3,Q4,Q5,Q6,Q7,Q8,Q9, h42])
    exact go
theorem give_c (h : Hs σ X (StrR u l :: XL p q zero ua s R)) (hx : RpPt X x (ptC x v)) (hl : ∀ t, t ∈ l → t.length ≤ 200) (hll : l.length ≤ 20) (hk : ∀ w X' σ', Ce.le X X' → RepL X' w (giveX s x l) → Hs σ' X' (StrR u l :: XL p q zero ua s R) → k w σ') :
    kCall PG 106 [pw p, ptV x v, u] σ k := by
  by_cases hn : x.text = [42] ∧ x.quote = true
  · unfold giveX at hk
    rw [if_pos hn] at hk
    obtain ⟨va, vn, vc, rfl⟩ := hx.val
    obtain ⟨a, g, o, cap, rfl, hle, hcm, hn0, hat⟩ := StrR.get h
    refine f106 ?_
    have h1 := h.new (cs := ptC x (.slice va vn vc))
    (try simp -dsimp (disch := first|exact P5|fail) only [↓P1,P2,↓P4,Q1,Q2,Q3,Q4,Q5,Q6,Q7,Q8,Q9, F106])
    generalize hs1 : AS.new σ _ = s1 at h1 ⊢
    generalize σ.n = p4 at h1 ⊢
    refine join_by fun J1 hJ1 => ?_
    (try simp -dsimp (disch := first|exact P5|fail) only [↓P1,P2,↓P4,Q1,Q2,Q3,Q4,Q5,Q6,Q7,Q8,Q9, h1.obj, hn.1, hn.2])
    have h2 : Hs s1 X (XL p q zero ua s (Cel p4 (ptC x (.slice va vn vc)) :: StrR (.slice a l.length cap) l :: R)) := (h1.front 3 rfl).front 3 rfl
    refine ifs_c h2 fun s2 h3 => ?_
    have h4 : Hs s2 X (Cel p4 (ptC x (.slice va vn vc)) :: StrR (.slice a l.length cap) l :: XL p q zero ua s R) := (h3.front 3 rfl).front 3 rfl
    have et : List.take (if 1 < ((ifsX s).length : Int) then 1 else ((ifsX s).length : Int)).toNat (ifsX s) = (ifsX s).take 1 := by
      split
      · rfl
      · rw [Int.toNat_natCast, List.take_length, List.take_of_length_le (by omega)]
    have ht1 : ((ifsX s).take 1).length ≤ 1 := by rw [List.length_take]; omega
    (try simp -dsimp (disch := first|exact P5|fail) only [↓P1,P2,↓P4,Q1,Q2,Q3,Q4,Q5,Q6,Q7,Q8,Q9, h4.obj])
    rw [et]
    refine joins_c ht1 h4.swap hl hll fun s5 h5 => ?_
    have h6 := h5.swap
    have hjl := join1_len ht1 hl
    (try simp -dsimp (disch := first|exact P5|fail) only [↓P1,P2,↓P4,Q1,Q2,Q3,Q4,Q5,Q6,Q7,Q8,Q9, h6.obj])
    refine xpiece_c h6 hx fun s7 h7 => ?_
    have h8 := h7.drop.new (cs := [.string (bs (Lib.join l ((ifsX s).take 1))), .bool x.quote, .bool (!x.quote), .bool false])
    have hb : (Lib.join l ((ifsX s).take 1)).length ≤ maxLen := by unfold maxLen; omega
    have h9 := h8.lit (l := [((Lib.join l ((ifsX s).take 1), x.quote, !x.quote, false) : Pc)]) (n := 1) (RpL.one (pc_ok hb)) rfl (by unfold maxLen; omega)
    obtain ⟨X', le, r, g1⟩ := h9.keep
    (try simp -dsimp (disch := first|exact P5|fail) only [↓P1,P2,↓P4,Q1,Q2,Q3,Q4,Q5,Q6,Q7,Q8,Q9])
    rw [hn.2] at r
    exact hk _ _ _ le r g1
  · unfold giveX at hk
    rw [if_neg hn] at hk
    exact given_c h hx hn (by omega) hk
theorem text_x {g i : Nat} {o : Go.Obj} {w : List Pt} {l : List Pc} (hp : PcsK g o ans w false s s' l) (hl : many l ≤ 1000000) (L : A03.Law X g o) (hg : R[i]? = some (Oth g o)) (hua : RepL X ua ans) (hw : RepL X wv w) (h : Hs σ X (XL p q sh ua s R))
    (hk : ∀ X' u σ', Ce.le X X' → RepL X' u (oneM l).2 → Hs σ' X' (XL p q sh ua s' R) → k (.agg [.string (bs (oneM l).1), u].toArray) σ') : kCall PG 43 [pw p, wv] σ k := by
  refine f43 ?_
  have h1 := h.new (cs := [.string (bs []), .slice none 0 0])
  obtain ⟨wa, wc, hwv, _, _⟩ := hw.val
  (try simp -dsimp (disch := first|exact P5|fail) only [↓P1,P2,↓P4,Q1,Q2,Q3,Q4,Q5,Q6,Q7,Q8,Q9, F43])
  generalize hs1 : AS.new σ _ = s1 at h1 ⊢
  generalize σ.n = p4 at h1 ⊢
  refine hp L (R := Cel p4 [.string (bs []), .slice none 0 0] :: R) (i := i + 1) (by simpa using hg) hua hw h1.un2 fun u X1 s2 le1 r1 h2 => ?_
  (try simp -dsimp (disch := first|exact P5|fail) only [↓P1,P2,↓P4,Q1,Q2,Q3,Q4,Q5,Q6,Q7,Q8,Q9])
  refine one_h h2 r1 hl fun X2 w2 s3 le2 r2 h3 => ?_
  have h4 := h3.rot2
  obtain ⟨a2, c2, rfl, _, _⟩ := r2.val
  (try simp -dsimp (disch := first|exact P5|fail) only [↓P1,P2,↓P4,Q1,Q2,Q3,Q4,Q5,Q6,Q7,Q8,Q9, h4.obj])
  exact hk X2 _ _ (Ce.le_trans le1 le2) r2 h4.put.drop
end
end Go.Proofs.YtdlimikcgdgfpaaGreatDoor
namespace Go.Proofs.YtdlimikcgdgfpaaGreatDoor
open Tryz renaming prog → PG
open E renaming preR → P1, postR → P2, w_join → P3, w_stop → P4, dsc → P5
open E Go.Lib S09 G02 V08 W05
def trimX (op : Int) (l : List G02.Tok) (s : Str) : Str := if op = 6 ∨ op = 7 then s.drop (frontL l s (decide (op = 7))).toNat else s.take (s.length - (backL l s (decide (op = 9))).toNat)
theorem pick_le (p : Nat → Bool) (b : Bool) (n : Nat) : pick p b (n + 1) ≤ n := by
  rcases pick_spec p b (n + 1) with ⟨h, _⟩ | ⟨i, h1, h2, _⟩ <;> omega
theorem trimX_len (op : Int) (l : List G02.Tok) (s : Str) : (trimX op l s).length ≤ s.length := by
  unfold trimX
  split
  · rw [List.length_drop]; omega
  · rw [List.length_take]; omega
def manyX (x : Pt) : Bool := decide (x.text = [64]) || decide (x.text = [42])
def valsX (s : XS) (x : Pt) : List Str := if manyX x = true then s.v.ar else [(paramV s.v sh x.text).1]
def VarC (g : Nat) (o : Go.Obj) (ans : List Str) (x : Pt) (s s' : XS) (l : List Pc) : Prop :=
  (x.op = 0 ∧ s' = s ∧ l = giveX s x (valsX s x)) ∨
  (x.op = 4 ∧ manyX x = false ∧ (paramV s.v sh x.text).2 = false ∧ ∃ s1 m, PcsK g o ans x.word false s s1 m ∧ many m ≤ 1000000 ∧ s1.over = false ∧ s' = ⟨s1.v, s1.used, 14, s1.wants, s1.need, (oneM m).1⟩ ∧ l = [((oneM m).1, x.quote, !x.quote, false)]) ∨
  (6 ≤ x.op ∧ x.op ≤ 9 ∧ manyX x = false ∧ ∃ m, PcsK g o ans x.word false s s' m ∧ many m ≤ 1000000 ∧ l = giveX s' x [trimX x.op (toks (oneM m).1 (oneM m).2) (paramV s.v sh x.text).1])
section
variable {σ σ' : AS} {X : Ce} {R : List Ck} {k : Value → AS → Prop} {p q : Nat} {zero t : Str} {ua wv v u xv : Value} {s s' : XS} {inner : Bool} {x : Pt} {ans l : List Str}
theorem trimmed_c {op : Int} {l : List G02.Tok} (hop : 6 ≤ op ∧ op ≤ 9) (hl : RepL X v l) (ht : t.length ≤ 1000000) (h : Hs σ X R) (hk : ∀ σ', Hs σ' X R → k (.string (bs (trimX op l t))) σ') :
    kCall PG 108 [.int .i64 op, v, .string (bs t)] σ k := by
  refine f108 ?_
  have hf : ∀ b, frontL l t b ≤ t.length := fun b => pick_le _ _ _
  have hb : ∀ b, backL l t b ≤ t.length := fun b => pick_le _ _ _
  have hop' : op = 6 ∨ op = 7 ∨ op = 8 ∨ op = 9 := by omega
  unfold trimX at hk
  rcases hop' with rfl | rfl | rfl | rfl
  · have e1 : (if frontL l t false < 0 then 0 else frontL l t false) = (((frontL l t false).toNat : Nat) : Int) := by split <;> omega
    have e2 : (frontL l t false).toNat ≤ t.length := by have := hf false; omega
    (try simp -dsimp (disch := first|exact P5|fail) only [↓P1,P2,↓P4,Q1,Q2,Q3,Q4,Q5,Q6,Q7,Q8,Q9, F108])
    refine join_by fun J hJ => ?_
    (try simp -dsimp (disch := first|exact P5|fail) only [↓P1,P2,↓P4,Q1,Q2,Q3,Q4,Q5,Q6,Q7,Q8,Q9])
    refine G02.front_c (longest := false) hl ht h fun s1 h1 => ?_
    (try simp -dsimp (disch := first|exact P5|fail) only [↓P1,P2,↓P4,Q1,Q2,Q3,Q4,Q5,Q6,Q7,Q8,Q9, e1])
    rw [List.take_of_length_le (by rw [List.length_drop]; omega)]
    exact hk _ h1
  · have e1 : (if frontL l t true < 0 then 0 else frontL l t true) = (((frontL l t true).toNat : Nat) : Int) := by split <;> omega
    have e2 : (frontL l t true).toNat ≤ t.length := by have := hf true; omega
    (try simp -dsimp (disch := first|exact P5|fail) only [↓P1,P2,↓P4,Q1,Q2,Q3,Q4,Q5,Q6,Q7,Q8,Q9, F108])
    refine join_by fun J hJ => ?_
    (try simp -dsimp (disch := first|exact P5|fail) only [↓P1,P2,↓P4,Q1,Q2,Q3,Q4,Q5,Q6,Q7,Q8,Q9])
    refine G02.front_c (longest := true) hl ht h fun s1 h1 => ?_
    (try simp -dsimp (disch := first|exact P5|fail) only [↓P1,P2,↓P4,Q1,Q2,Q3,Q4,Q5,Q6,Q7,Q8,Q9, e1])
    rw [List.take_of_length_le (by rw [List.length_drop]; omega)]
    exact hk _ h1
  · have e1 : (if backL l t false < 0 then 0 else backL l t false) = (((backL l t false).toNat : Nat) : Int) := by split <;> omega
    have e2 : (backL l t false).toNat ≤ t.length := by have := hb false; omega
    have e3 : ((t.length : Int) - (((backL l t false).toNat : Nat) : Int)).toNat = t.length - (backL l t false).toNat := by omega
    (try simp -dsimp (disch := first|exact P5|fail) only [↓P1,P2,↓P4,Q1,Q2,Q3,Q4,Q5,Q6,Q7,Q8,Q9, F108])
    refine join_by fun J hJ => ?_
    (try simp -dsimp (disch := first|exact P5|fail) only [↓P1,P2,↓P4,Q1,Q2,Q3,Q4,Q5,Q6,Q7,Q8,Q9])
    refine hJ _ _ ?_
    (try simp -dsimp (disch := first|exact P5|fail) only [↓P1,P2,↓P4,Q1,Q2,Q3,Q4,Q5,Q6,Q7,Q8,Q9])
    refine G02.back_c (longest := false) hl ht h fun s1 h1 => ?_
    (try simp -dsimp (disch := first|exact P5|fail) only [↓P1,P2,↓P4,Q1,Q2,Q3,Q4,Q5,Q6,Q7,Q8,Q9, e1, e3])
    exact hk _ h1
  · have e1 : (if backL l t true < 0 then 0 else backL l t true) = (((backL l t true).toNat : Nat) : Int) := by split <;> omega
    have e2 : (backL l t true).toNat ≤ t.length := by have := hb true; omega
    have e3 : ((t.length : Int) - (((backL l t true).toNat : Nat) : Int)).toNat = t.length - (backL l t true).toNat := by omega
    (try simp -dsimp (disch := first|exact P5|fail) only [↓P1,P2,↓P4,Q1,Q2,Q3,Q4,Q5,Q6,Q7,Q8,Q9, F108])
    refine join_by fun J hJ => ?_
    (try simp -dsimp (disch := first|exact P5|fail) only [↓P1,P2,↓P4,Q1,Q2,Q3,Q4,Q5,Q6,Q7,Q8,Q9])
    refine hJ _ _ ?_
    (try simp -dsimp (disch := first|exact P5|fail) only [↓P1,P2,↓P4,Q1,Q2,Q3,Q4,Q5,Q6,Q7,Q8,Q9])
    refine G02.back_c (longest := true) hl ht h fun s1 h1 => ?_
    (try simp -dsimp (disch := first|exact P5|fail) only [↓P1,P2,↓P4,Q1,Q2,Q3,Q4,Q5,Q6,Q7,Q8,Q9, e1, e3])
    exact hk _ h1
theorem grd_cnt {s : AS} {is co nz : Bool} {X1 : (List Value → AS → Prop) → Prop} {X2 : AS → (List Value → AS → Prop) → Prop} {K : AS → Value → Prop} (h1 : is = true → ∀ k' : List Value → AS → Prop, k' [.bool (!co)] s → X1 k') (h2 : ∀ k' : List Value → AS → Prop, k' [.bool nz] s → X2 s k')
    (hK : K s (.bool (is && (!co || nz)))) :
    kGrd (.bool is) true X1 [undef] s fun xs s => un1 xs fun v48 => kGrd v48 false (X2 s) [undef] s fun xs s => un1 xs fun v50 => kGrd (.bool is) true (fun k => kPick v48 (.bool true) v50 fun v51 => k [v51] s) [undef] s fun xs s => un1 xs fun v51 => kPick (.bool is) v51 (.bool false) (K s) := by
  cases is with
  | false => exact hK
  | true => cases co with
    | false => exact h1 rfl _ hK
    | true => exact h1 rfl _ (h2 _ hK)
theorem drop2 {A B C : Ck} (h : Hs σ X (A :: B :: C :: R)) : Hs σ X (A :: B :: R) := h.rot2.drop
theorem strR_of {n : Nat} (h : Hs σ X (Cel n [.string (bs t)] :: R)) (ht : t.length ≤ maxLen) : Hs σ X (StrR (.slice (some ⟨n, 0, none⟩) 1 1) [t] :: R) := by
  obtain ⟨F, ⟨rfl, hm⟩, hk⟩ := h.turn
  refine hk (F' := [n]) (Chg.refl _ _) (.inr ⟨n, 0, 1, _, rfl, rfl, hm, Nat.le_refl _, by unfold maxLen; decide, Nat.le_refl _, fun i hi => ?_⟩) (fun g hg => .inl hg)
  simp only [List.length_cons, List.length_nil] at hi
  obtain rfl : i = 0 := by omega
  exact ⟨rfl, ht⟩
theorem var_one {g : Nat} {o : Go.Obj} {l : List Pc} (hp : VarC g o ans x s s' l) (hI : InvP s.v) (ht : x.text.length ≤ 200) (hpl : (paramV s.v sh x.text).1.length ≤ 1000000) (hv : ∀ t, t ∈ valsX s x → t.length ≤ 200) : VarK g o ans x s s' l := by
  intro σ X R k p q i ua v L hg hua hx h hk
  obtain ⟨va, vn, vc, rfl⟩ := hx.val
  obtain ⟨te, pe, hE⟩ := L.e.r
  refine f67 ?_
  have h1 := (h.new (cs := [pw p])).new (cs := ptC x (.slice va vn vc))
  (try simp -dsimp (disch := first|exact P5|fail) only [↓P1,P2,↓P4,Q1,Q2,Q3,Q4,Q5,Q6,Q7,Q8,Q9, F67, h1.obj, h1.obj1, h1.obj2])
  generalize hs1 : AS.new (AS.new σ _) _ = s1 at h1 ⊢
  generalize AS.n (AS.new σ _) = p3 at h1 ⊢
  generalize σ.n = x2 at h1 ⊢
  have h2 : Hs s1 X (Vm q sh s.v :: Cel p3 (ptC x (.slice va vn vc)) :: Cel x2 [pw p] :: Cel p (xC q ua s) :: R) := h1.front 3 rfl
  refine param2_c L.t hE h2 (i := i + 3) (by simpa using hg) ht hI fun s2 h3 => ?_
  obtain ⟨val, is, hval⟩ : ∃ val is, paramV s.v sh x.text = (val, is) := ⟨_, _, rfl⟩
  unfold VarC valsX at hp
  unfold valsX at hv
  rw [hval] at hp hpl hv ⊢
  have h4 : Hs s2 X (Cel p3 (ptC x (.slice va vn vc)) :: Cel x2 [pw p] :: XL p q sh ua s R) := h3.un3
  have h5 := h4.new (cs := [.string (bs val)])
  have h6 : Hs (((s2.new (.cells [.string (bs val)])).new (.cells [.slice none 0 0])).put (s2.n + 1) (.cells [.slice (some ⟨s2.n, 0, none⟩) 1 1])) X (Cel (s2.n + 1) [.slice (some ⟨s2.n, 0, none⟩) 1 1] :: Cel s2.n [.string (bs val)] :: Cel p3 (ptC x (.slice va vn vc)) :: Cel x2 [pw p] :: XL p q sh ua s R) := (h5.new (cs := [.slice none 0 0])).put
  (try simp -dsimp (disch := first|exact P5|fail) only [↓P1,P2,↓P4,Q1,Q2,Q3,Q4,Q5,Q6,Q7,Q8,Q9, h4.obj])
  generalize hs3 : AS.put (AS.new (AS.new s2 _) _) _ _ = s3 at h6 ⊢
  have hv7 : AS.n (AS.new s2 (.cells [.string (bs val)])) = s2.n + 1 := rfl
  rw [hv7]
  generalize hv7' : s2.n + 1 = v7 at h6 ⊢
  generalize hvg : s2.n = vg at h6 ⊢
  clear hs3 hv7 hv7' hvg h5 h4 h3 h2 h1 hs1
  have hvl0 : val.length ≤ 1000000 := hpl
  have hvl : val.length ≤ maxLen := by unfold maxLen; omega
  -- what comes behind J1
  have single : manyX x = false → ∀ (K : Prop) (hK : (x.text = [64]) = False → (x.text = [42]) = False → K), K := by
    intro hm K hK
    unfold manyX at hm
    rw [Bool.or_eq_false_iff, decide_eq_false_iff_not, decide_eq_false_iff_not] at hm
    exact hK (eq_false hm.1) (eq_false hm.2)
  rcases hp with ⟨hop, rfl, rfl⟩ | ⟨hop, hm, his, s5, m, hP, hml, hov, rfl, rfl⟩ | ⟨hop1, hop2, hm, m, hP, hml, rfl⟩
  · have tail : ∀ (vals : List Str) (uv : Value) (s4 : AS), vals.length ≤ 20 → (∀ t, t ∈ vals → t.length ≤ 200) → vals = (if manyX x = true then s'.v.ar else [val]) → Hs s4 X (StrR uv vals :: XL p q sh ua s' (Cel v7 [uv] :: Cel p3 (ptC x (.slice va vn vc)) :: Cel x2 [pw p] :: R)) →
      kCallv PG (.func (.func 105) #[] #[pw x2, pw p3, pw v7]) [] s4 fun v60 s => k v60 s := by
      intro vals uv s4 hl20 hl200 hvs h7
      have o7 := h7.obj3
      have o8 := (h7.front 4 rfl).obj
      have o9 := (h7.front 5 rfl).obj
      obtain ⟨ua', ug', uo', ucap', e6, _, _, _, _⟩ := StrR.get h7
      refine callv_by (a := []) (b := [pw x2, pw p3, pw v7]) k105_ok ?_
      show kCall PG 105 [pw x2, pw p3, pw v7] s4 _
      refine f105 ?_
      (try simp -dsimp (disch := first|exact P5|fail) only [↓P1,P2,↓P4,Q1,Q2,Q3,Q4,Q5,Q6,Q7,Q8,Q9, F105, o7, o8, o9])
      refine give_c h7 hx hl200 hl20 fun w X' s8 le8 r8 h8 => ?_
      (try simp -dsimp (disch := first|exact P5|fail) only [↓P1,P2,↓P4,Q1,Q2,Q3,Q4,Q5,Q6,Q7,Q8,Q9])
      subst hvs
      have h9 : Hs s8 X' (XL p q sh ua s' (Cel v7 [_] :: Cel p3 _ :: Cel x2 [pw p] :: R)) := h8.drop
      exact hk _ _ _ le8 r8 (((h9.front 4 rfl).drop.front 3 rfl).drop.front 2 rfl).drop
    (try simp -dsimp (disch := first|exact P5|fail) only [↓P1,P2,↓P4,Q1,Q2,Q3,Q4,Q5,Q6,Q7,Q8,Q9, h6.obj2])
    refine grd_or (b := decide (x.text = [42])) (fun _ k' hk' => by (try simp -dsimp (disch := first|exact P5|fail) only [↓P1,P2,↓P4,Q1,Q2,Q3,Q4,Q5,Q6,Q7,Q8,Q9, h6.obj2]); exact hk') ?_
    rw [show (decide (x.text = [64]) || decide (x.text = [42])) = manyX x from rfl]
    (try simp -dsimp (disch := first|exact P5|fail) only [↓P1,P2,↓P4,Q1,Q2,Q3,Q4,Q5,Q6,Q7,Q8,Q9])
    refine join_by fun J1 hJ1 => ?_
    have t1 : ∀ (vals : List Str) (uv : Value) (s4 : AS), vals.length ≤ 20 → (∀ t, t ∈ vals → t.length ≤ 200) → vals = (if manyX x = true then s'.v.ar else [val]) → Hs s4 X (StrR uv vals :: XL p q sh ua s' (Cel v7 [uv] :: Cel p3 (ptC x (.slice va vn vc)) :: Cel x2 [pw p] :: R)) → J1 [] s4 := by
      intro vals uv s4 hl20 hl200 hvs h7
      refine hJ1 _ _ ?_
      have o8 := (h7.front 4 rfl).obj
      have fin : ∀ J2 : List Value → AS → Prop, kCallv PG (.func (.func 105) #[] #[pw x2, pw p3, pw v7]) [] s4 fun v60 s => k v60 s := fun _ => tail vals uv s4 hl20 hl200 hvs h7
      cases is with
      | false =>
        (try simp -dsimp (disch := first|exact P5|fail) only [↓P1,P2,↓P4,Q1,Q2,Q3,Q4,Q5,Q6,Q7,Q8,Q9])
        refine join_by fun J2 hJ2 => ?_
        (try simp -dsimp (disch := first|exact P5|fail) only [↓P1,P2,↓P4,Q1,Q2,Q3,Q4,Q5,Q6,Q7,Q8,Q9, o8, hop])
        exact fin J2
      | true =>
        cases hco : x.colon with
        | false =>
          (try simp -dsimp (disch := first|exact P5|fail) only [↓P1,P2,↓P4,Q1,Q2,Q3,Q4,Q5,Q6,Q7,Q8,Q9, o8, hco])
          refine join_by fun J2 hJ2 => ?_
          (try simp -dsimp (disch := first|exact P5|fail) only [↓P1,P2,↓P4,Q1,Q2,Q3,Q4,Q5,Q6,Q7,Q8,Q9, o8, hop])
          exact fin J2
        | true =>
          by_cases hv0 : val = [] <;>
          · (try simp -dsimp (disch := first|exact P5|fail) only [↓P1,P2,↓P4,Q1,Q2,Q3,Q4,Q5,Q6,Q7,Q8,Q9, o8, hco, hv0])
            refine join_by fun J2 hJ2 => ?_
            (try simp -dsimp (disch := first|exact P5|fail) only [↓P1,P2,↓P4,Q1,Q2,Q3,Q4,Q5,Q6,Q7,Q8,Q9, o8, hop])
            exact fin J2
    clear hJ1 tail
    cases hmx : manyX x with
    | false =>
      (try simp -dsimp (disch := first|exact P5|fail) only [↓P1,P2,↓P4,Q1,Q2,Q3,Q4,Q5,Q6,Q7,Q8,Q9])
      have h7 : Hs s3 X (StrR (.slice (some ⟨vg, 0, none⟩) 1 1) [val] :: Cel v7 [.slice (some ⟨vg, 0, none⟩) 1 1] :: Cel p3 (ptC x (.slice va vn vc)) :: Cel x2 [pw p] :: XL p q sh ua s' R) := strR_of h6.swap hvl
      have h8 : Hs s3 X (StrR (.slice (some ⟨vg, 0, none⟩) 1 1) [val] :: XL p q sh ua s' (Cel v7 [.slice (some ⟨vg, 0, none⟩) 1 1] :: Cel p3 (ptC x (.slice va vn vc)) :: Cel x2 [pw p] :: R)) := ((h7.front 4 rfl).front 5 rfl).swap.rot2
      rw [hmx] at hv
      exact t1 [val] _ s3 (by simp) hv (by rw [hmx]; rfl) h8
    | true =>
      (try simp -dsimp (disch := first|exact P5|fail) only [↓P1,P2,↓P4,Q1,Q2,Q3,Q4,Q5,Q6,Q7,Q8,Q9])
      rw [hmx] at hv
      (try simp -dsimp (disch := first|exact P5|fail) only [↓P1,P2,↓P4,Q1,Q2,Q3,Q4,Q5,Q6,Q7,Q8,Q9, h6.obj3, h6.obj4])
      refine args_c (h6.front 5 rfl) (by have := hI.tx.1; omega) fun u1 s4 h7 => ?_
      obtain ⟨ua', ug', uo', ucap', e6, _, _, _, _⟩ := StrR.get h7
      subst e6
      have h8 := h7.front 2 rfl
      (try simp -dsimp (disch := first|exact P5|fail) only [↓P1,P2,↓P4,Q1,Q2,Q3,Q4,Q5,Q6,Q7,Q8,Q9, h8.obj])
      have h9 := h8.put (cs' := [.slice ua' s'.v.ar.length ucap'])
      have h10 : Hs _ X (StrR (.slice ua' s'.v.ar.length ucap') s'.v.ar :: XL p q sh ua s' (Cel v7 [.slice ua' s'.v.ar.length ucap'] :: Cel p3 (ptC x (.slice va vn vc)) :: Cel x2 [pw p] :: R)) := (((h9.front 3 rfl).drop.front 2 rfl).front 5 rfl).front 3 rfl
      exact t1 _ _ _ hI.tx.1 hv (by rw [hmx]; rfl) h10
  · rw [show (is = false) from his] at *
    (try simp -dsimp (disch := first|exact P5|fail) only [↓P1,P2,↓P4,Q1,Q2,Q3,Q4,Q5,Q6,Q7,Q8,Q9, h6.obj2])
    refine grd_or (b := decide (x.text = [42])) (fun _ k' hk' => by (try simp -dsimp (disch := first|exact P5|fail) only [↓P1,P2,↓P4,Q1,Q2,Q3,Q4,Q5,Q6,Q7,Q8,Q9, h6.obj2]); exact hk') ?_
    rw [show (decide (x.text = [64]) || decide (x.text = [42])) = manyX x from rfl, hm]
    (try simp -dsimp (disch := first|exact P5|fail) only [↓P1,P2,↓P4,Q1,Q2,Q3,Q4,Q5,Q6,Q7,Q8,Q9])
    refine join_by fun J1 hJ1 => ?_
    (try simp -dsimp (disch := first|exact P5|fail) only [↓P1,P2,↓P4,Q1,Q2,Q3,Q4,Q5,Q6,Q7,Q8,Q9])
    refine hJ1 _ _ ?_
    clear hJ1
    (try simp -dsimp (disch := first|exact P5|fail) only [↓P1,P2,↓P4,Q1,Q2,Q3,Q4,Q5,Q6,Q7,Q8,Q9])
    refine join_by fun J2 hJ2 => ?_
    (try simp -dsimp (disch := first|exact P5|fail) only [↓P1,P2,↓P4,Q1,Q2,Q3,Q4,Q5,Q6,Q7,Q8,Q9, h6.obj2, hop])
    refine join_by fun J6 hJ6 => ?_
    (try simp -dsimp (disch := first|exact P5|fail) only [↓P1,P2,↓P4,Q1,Q2,Q3,Q4,Q5,Q6,Q7,Q8,Q9, h6.obj2, hop])
    refine hJ6 _ _ ?_
    clear hJ6
    (try simp -dsimp (disch := first|exact P5|fail) only [↓P1,P2,↓P4,Q1,Q2,Q3,Q4,Q5,Q6,Q7,Q8,Q9])
    refine join_by fun J7 hJ7 => ?_
    (try simp -dsimp (disch := first|exact P5|fail) only [↓P1,P2,↓P4,Q1,Q2,Q3,Q4,Q5,Q6,Q7,Q8,Q9])
    refine hJ7 _ _ ?_
    clear hJ7
    (try simp -dsimp (disch := first|exact P5|fail) only [↓P1,P2,↓P4,Q1,Q2,Q3,Q4,Q5,Q6,Q7,Q8,Q9])
    refine join_by fun J8 hJ8 => ?_
    (try simp -dsimp (disch := first|exact P5|fail) only [↓P1,P2,↓P4,Q1,Q2,Q3,Q4,Q5,Q6,Q7,Q8,Q9, h6.obj2, hop])
    refine hJ8 _ _ ?_
    clear hJ8
    have h7 : Hs s3 X (XL p q sh ua s (Cel v7 [.slice (some ⟨vg, 0, none⟩) 1 1] :: Cel vg [.string (bs val)] :: Cel p3 (ptC x (.slice va vn vc)) :: Cel x2 [pw p] :: R)) := ((h6.front 4 rfl).front 5 rfl).swap
    (try simp -dsimp (disch := first|exact P5|fail) only [↓P1,P2,↓P4,Q1,Q2,Q3,Q4,Q5,Q6,Q7,Q8,Q9, h6.obj2, h6.obj3])
    refine text_x (i := i + 4) hP hml L (by simpa using hg) hua hx.rest.2.2.2 h7 fun X1 u1 s4 le1 r1 h8 => ?_
    (try simp -dsimp (disch := first|exact P5|fail) only [↓P1,P2,↓P4,Q1,Q2,Q3,Q4,Q5,Q6,Q7,Q8,Q9])
    refine join_by fun J9 hJ9 => ?_
    have o8 := (h8.front 5 rfl).obj
    have o9 := h8.obj4
    (try simp -dsimp (disch := first|exact P5|fail) only [↓P1,P2,↓P4,Q1,Q2,Q3,Q4,Q5,Q6,Q7,Q8,Q9, o8])
    refine over_c h8 ?_
    rw [hov]
    (try simp -dsimp (disch := first|exact P5|fail) only [↓P1,P2,↓P4,Q1,Q2,Q3,Q4,Q5,Q6,Q7,Q8,Q9])
    obtain ⟨ua1, uc1, rfl, _, _⟩ := hua.val
    have h9 := h8.put (cs' := [pw q, .slice ua1 ans.length uc1, .int .i64 s5.used, .int .i64 14, .bool s5.wants, .string (bs s5.need), .string (bs s5.msg)])
    have h10 := h8.put (cs' := xC q (.slice ua1 ans.length uc1) ⟨s5.v, s5.used, 14, s5.wants, s5.need, (oneM m).1⟩)
    (try simp -dsimp (disch := first|exact P5|fail) only [↓P1,P2,↓P4,Q1,Q2,Q3,Q4,Q5,Q6,Q7,Q8,Q9, o8, o9, hop, h8.obj, (h9.front 5 rfl).obj, h9.obj])
    refine hJ9 _ _ ?_
    clear hJ9
    (try simp -dsimp (disch := first|exact P5|fail) only [↓P1,P2,↓P4,Q1,Q2,Q3,Q4,Q5,Q6,Q7,Q8,Q9, h10.obj4, hop])
    have om := one_len m ([], []) rfl
    rw [← oneM_eq] at om
    have oml : (oneM m).1.length ≤ maxLen := by have := om.2; simp only [List.length_nil] at this; unfold maxLen; omega
    have hx1 := hx.mono le1
    rw [← hop]
    refine xpiece_c h10 hx1 fun s6 h11 => ?_
    have h12 := (h11.new (cs := [.string (bs (oneM m).1), .bool x.quote, .bool (!x.quote), .bool false])).lit (l := [(((oneM m).1, x.quote, !x.quote, false) : Pc)]) (n := 1) (RpL.one (pc_ok oml)) rfl (by unfold maxLen; omega)
    obtain ⟨X', le, r, g1⟩ := h12.keep
    (try simp -dsimp (disch := first|exact P5|fail) only [↓P1,P2,↓P4,Q1,Q2,Q3,Q4,Q5,Q6,Q7,Q8,Q9])
    exact hk _ _ _ (Ce.le_trans le1 le) r (drop2 (drop2 (drop2 (drop2 g1))))
  · (try simp -dsimp (disch := first|exact P5|fail) only [↓P1,P2,↓P4,Q1,Q2,Q3,Q4,Q5,Q6,Q7,Q8,Q9, h6.obj2])
    refine grd_or (b := decide (x.text = [42])) (fun _ k' hk' => by (try simp -dsimp (disch := first|exact P5|fail) only [↓P1,P2,↓P4,Q1,Q2,Q3,Q4,Q5,Q6,Q7,Q8,Q9, h6.obj2]); exact hk') ?_
    rw [show (decide (x.text = [64]) || decide (x.text = [42])) = manyX x from rfl, hm]
    (try simp -dsimp (disch := first|exact P5|fail) only [↓P1,P2,↓P4,Q1,Q2,Q3,Q4,Q5,Q6,Q7,Q8,Q9])
    refine join_by fun J1 hJ1 => ?_
    (try simp -dsimp (disch := first|exact P5|fail) only [↓P1,P2,↓P4,Q1,Q2,Q3,Q4,Q5,Q6,Q7,Q8,Q9])
    refine hJ1 _ _ ?_
    clear hJ1
    have n0 : ¬ x.op = 0 := by omega
    have n1 : ¬ x.op = 1 := by omega
    have n2 : ¬ x.op = 2 := by omega
    have n3 : ¬ x.op = 3 := by omega
    have n4 : ¬ x.op = 4 := by omega
    have n5 : ¬ x.op = 5 := by omega
    have h7 : Hs s3 X (XL p q sh ua s (Cel v7 [.slice (some ⟨vg, 0, none⟩) 1 1] :: Cel vg [.string (bs val)] :: Cel p3 (ptC x (.slice va vn vc)) :: Cel x2 [pw p] :: R)) := ((h6.front 4 rfl).front 5 rfl).swap
    refine grd_cnt (co := x.colon) (nz := !decide (val = [])) (fun _ k' hk' => by (try simp -dsimp (disch := first|exact P5|fail) only [↓P1,P2,↓P4,Q1,Q2,Q3,Q4,Q5,Q6,Q7,Q8,Q9, h6.obj2]); exact hk') (fun k' hk' => by (try simp -dsimp (disch := first|exact P5|fail) only [↓P1,P2,↓P4,Q1,Q2,Q3,Q4,Q5,Q6,Q7,Q8,Q9]); exact hk') ?_
    (try simp -dsimp (disch := first|exact P5|fail) only [↓P1,P2,↓P4,Q1,Q2,Q3,Q4,Q5,Q6,Q7,Q8,Q9])
    refine join_by fun J2 hJ2 => ?_
    clear hJ2
    (try simp -dsimp (disch := first|exact P5|fail) only [↓P1,P2,↓P4,Q1,Q2,Q3,Q4,Q5,Q6,Q7,Q8,Q9, h6.obj2, n0, n1, n5])
    refine join_by fun J6 hJ6 => ?_
    (try simp -dsimp (disch := first|exact P5|fail) only [↓P1,P2,↓P4,Q1,Q2,Q3,Q4,Q5,Q6,Q7,Q8,Q9, n2, n3, n4])
    refine hJ6 _ _ ?_
    clear hJ6
    (try simp -dsimp (disch := first|exact P5|fail) only [↓P1,P2,↓P4,Q1,Q2,Q3,Q4,Q5,Q6,Q7,Q8,Q9])
    refine join_by fun J10 hJ10 => ?_
    have hJ : J10 [.bool true] s3 := by
      refine hJ10 _ _ ?_
      clear hJ10
      (try simp -dsimp (disch := first|exact P5|fail) only [↓P1,P2,↓P4,Q1,Q2,Q3,Q4,Q5,Q6,Q7,Q8,Q9, h6.obj2, h6.obj3])
      refine text_x (i := i + 4) hP hml L (by simpa using hg) hua hx.rest.2.2.2 h7 fun X1 u1 s4 le1 r1 h8 => ?_
      obtain ⟨u1a, u1c, rfl, _, _⟩ := r1.val
      have h9 := h8.new (cs := [.string (bs []), .slice none 0 0])
      have h10 := h9.put (cs' := [.string (bs (oneM m).1), .slice u1a (oneM m).2.length u1c])
      have om := one_len m ([], []) rfl
      rw [← oneM_eq] at om
      have oml : (oneM m).1.length ≤ 1000000 := by have := om.2; simp only [List.length_nil] at this; omega
      (try simp -dsimp (disch := first|exact P5|fail) only [↓P1,P2,↓P4,Q1,Q2,Q3,Q4,Q5,Q6,Q7,Q8,Q9, h9.obj, h10.obj])
      generalize hs5 : AS.put _ s4.n _ = s5 at h10 ⊢
      refine parse_c r1 oml h10 fun X2 lv s6 le2 r2 h11 => ?_
      have h12 : Hs s6 X2 (XL p q sh ua s' (Cel v7 [.slice (some ⟨vg, 0, none⟩) 1 1] :: Cel vg [.string (bs val)] :: Cel p3 (ptC x (.slice va vn vc)) :: Cel x2 [pw p] :: R)) := h11.drop
      clear h11 h10 h9 h8 h7 h6
      generalize toks (oneM m).1 (oneM m).2 = tk at r2 hk
      have hle : Ce.le X X2 := Ce.le_trans le1 le2
      (try simp -dsimp (disch := first|exact P5|fail) only [↓P1,P2,↓P4,Q1,Q2,Q3,Q4,Q5,Q6,Q7,Q8,Q9])
      refine join_by fun J11 hJ11 => ?_
      have hJ11' : ∀ s7, Hs s7 X2 (XL p q sh ua s' (Cel v7 [.slice (some ⟨vg, 0, none⟩) 1 1] :: Cel vg [.string (bs (trimX x.op tk val))] :: Cel p3 (ptC x (.slice va vn vc)) :: Cel x2 [pw p] :: R)) → J11 [] s7 := by
        intro s7 h13
        refine hJ11 _ _ ?_
        (try simp -dsimp (disch := first|exact P5|fail) only [↓P1,P2,↓P4,Q1,Q2,Q3,Q4,Q5,Q6,Q7,Q8,Q9])
        have tl := trimX_len x.op tk val
        rw [hm] at hv
        have hv2 : val.length ≤ 200 := hv val (by simp)
        have g1 := strR_of (h13.front 3 rfl) (t := trimX x.op tk val) (by omega)
        have g2 : Hs s7 X2 (StrR (.slice (some ⟨vg, 0, none⟩) 1 1) [trimX x.op tk val] :: XL p q sh ua s' (Cel v7 [.slice (some ⟨vg, 0, none⟩) 1 1] :: Cel p3 (ptC x (.slice va vn vc)) :: Cel x2 [pw p] :: R)) := g1
        have o7 := g2.obj3
        have o8 := (g2.front 4 rfl).obj
        have o9 := (g2.front 5 rfl).obj
        refine callv_by (a := []) (b := [pw x2, pw p3, pw v7]) k105_ok ?_
        show kCall PG 105 [pw x2, pw p3, pw v7] s7 _
        refine f105 ?_
        (try simp -dsimp (disch := first|exact P5|fail) only [↓P1,P2,↓P4,Q1,Q2,Q3,Q4,Q5,Q6,Q7,Q8,Q9, F105, o7, o8, o9])
        refine give_c g2 (hx.mono hle) (fun t ht => by simp only [List.mem_singleton] at ht; subst ht; omega) (by simp) fun w X' s8 le8 r8 h8 => ?_
        (try simp -dsimp (disch := first|exact P5|fail) only [↓P1,P2,↓P4,Q1,Q2,Q3,Q4,Q5,Q6,Q7,Q8,Q9])
        exact hk _ _ _ (Ce.le_trans hle le8) r8 (drop2 (drop2 (drop2 h8.drop)))
      clear hJ11
      (try simp -dsimp (disch := first|exact P5|fail) only [↓P1,P2,↓P4,Q1,Q2,Q3,Q4,Q5,Q6,Q7,Q8,Q9, (h12.front 2 rfl).obj])
      refine loop_inv (fun nn xs s1 => (nn = 1 ∧ xs = [.int .i64 0] ∧ s6 = s1) ∨ (nn = 0 ∧ xs = [.int .i64 1] ∧ Hs s1 X2 (XL p q sh ua s' (Cel v7 [.slice (some ⟨vg, 0, none⟩) 1 1] :: Cel vg [.string (bs (trimX x.op tk val))] :: Cel p3 (ptC x (.slice va vn vc)) :: Cel x2 [pw p] :: R)))) _ (.inl ⟨rfl, rfl, rfl⟩) ?_
      rintro _ _ s7 again (⟨rfl, rfl, rfl⟩ | ⟨rfl, rfl, h13⟩) hag
      · (try simp -dsimp (disch := first|exact P5|fail) only [↓P1,P2,↓P4,Q1,Q2,Q3,Q4,Q5,Q6,Q7,Q8,Q9])
        refine join_by fun J13 hJ13 => ?_
        (try simp -dsimp (disch := first|exact P5|fail) only [↓P1,P2,↓P4,Q1,Q2,Q3,Q4,Q5,Q6,Q7,Q8,Q9])
        refine hJ13 _ _ ?_
        clear hJ13
        (try simp -dsimp (disch := first|exact P5|fail) only [↓P1,P2,↓P4,Q1,Q2,Q3,Q4,Q5,Q6,Q7,Q8,Q9])
        refine join_by fun J14 hJ14 => ?_
        have o2 := (h12.front 2 rfl).obj
        have o3 := (h12.front 3 rfl).obj
        have o4 := (h12.front 4 rfl).obj
        (try simp -dsimp (disch := first|exact P5|fail) only [↓P1,P2,↓P4,Q1,Q2,Q3,Q4,Q5,Q6,Q7,Q8,Q9, o2, o3, o4])
        refine trimmed_c ⟨hop1, hop2⟩ r2 hvl0 h12 fun s8 h14 => ?_
        have o5 := (h14.front 2 rfl).obj
        have o6 := (h14.front 3 rfl).obj
        (try simp -dsimp (disch := first|exact P5|fail) only [↓P1,P2,↓P4,Q1,Q2,Q3,Q4,Q5,Q6,Q7,Q8,Q9, o5, o6])
        refine hJ14 _ _ ?_
        (try simp -dsimp (disch := first|exact P5|fail) only [↓P1,P2,↓P4,Q1,Q2,Q3,Q4,Q5,Q6,Q7,Q8,Q9])
        refine hag _ _ _ (.inr ⟨rfl, rfl, ?_⟩) (by omega)
        exact ((h14.front 3 rfl).put (cs' := [.string (bs (trimX x.op tk val))])).un3
      · (try simp -dsimp (disch := first|exact P5|fail) only [↓P1,P2,↓P4,Q1,Q2,Q3,Q4,Q5,Q6,Q7,Q8,Q9])
        refine join_by fun J13 hJ13 => ?_
        (try simp -dsimp (disch := first|exact P5|fail) only [↓P1,P2,↓P4,Q1,Q2,Q3,Q4,Q5,Q6,Q7,Q8,Q9])
        exact hJ11' _ h13
    have hop' : x.op = 6 ∨ x.op = 7 ∨ x.op = 8 ∨ x.op = 9 := by omega
    rcases hop' with e | e | e | e <;>
    · (try simp -dsimp (disch := first|exact P5|fail) only [↓P1,P2,↓P4,Q1,Q2,Q3,Q4,Q5,Q6,Q7,Q8,Q9, e])
      exact hJ
end
end Go.Proofs.YtdlimikcgdgfpaaGreatDoor
namespace Go.Proofs.YtdlimikcgdgfpaaGreatDoor
open E Go.Lib
abbrev pv (q : Nat) : Value := .pointer (some ⟨q, 0, none⟩)
end Go.Proofs.YtdlimikcgdgfpaaGreatDoor
