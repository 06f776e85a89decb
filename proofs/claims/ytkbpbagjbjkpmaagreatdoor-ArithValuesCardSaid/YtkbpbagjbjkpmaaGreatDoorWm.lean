/- An expression worked out: what Eval answers. Conditions: as each theorem says. -/
import Derived.Test.YtkbpbagjbjkpmaaGreatDoorWj
import Derived.Test.YtkbpbagjbjkpmaaGreatDoorEq
import Derived.Test.YtkbpbagjbjkpmaaGreatDoorGd
namespace Go.Proofs.YtkbpbagjbjkpmaaGreatDoor
open E Go.Lib
open Rp
set_option linter.unusedVariables false
set_option linter.unusedSimpArgs false
set_option maxHeartbeats 1000000
set_option maxRecDepth 20000

abbrev txts (l : List (Str × Int)) : List (Str × Str) := l.map fun q => (q.1, itoa q.2)
theorem next_nil (l : Str) : (nextP l = []) ↔ l = [] := by
  unfold nextP
  split
  · exact ⟨fun _ => rfl, fun _ => rfl⟩
  · simp
  · split <;> simp
theorem skip_skip (s : Str) : skipB (skipB s) = skipB s := by
  unfold skipB Go.Lib.trimLeftS
  induction s with
  | nil => rfl
  | cons c t ih =>
    rw [List.dropWhile_cons]
    split
    · exact ih
    · rename_i h
      rw [List.dropWhile_cons, if_neg h]
theorem VarsI.mono {X X' : Ce} {vv : Value} {vars : List (Str × Str)} (h : VarsI X vv vars) (hx : Ce.le X X') : VarsI X' vv vars := ⟨h.r.mono hx, h.l⟩
theorem ErrI.mono {X X' : Ce} (h : ErrI X) (hx : Ce.le X X') : ErrI X' := ⟨by
  obtain ⟨a, b, h⟩ := h.s
  exact ⟨a, b, hx _ _ _ h⟩, by
  obtain ⟨a, b, h⟩ := h.r
  exact ⟨a, b, hx _ _ _ h⟩⟩
theorem setsI_nil (B : Nat) : SetsI B [] := fun p hp => by cases hp
/-- An expression's number, what it sets, or what is wrong: any fuel that is enough. -/
def evalG (look : Str → Int × Int) (F : Nat) (s : Str) : Int × List (Str × Int) × Int :=
  if 4096 < s.length then (0, [], 3)
  else if skipB s = [] then (0, [], 0)
  else match ev look F .set ⟨skipB s, 0, 0, []⟩ with
    | none => (0, [], 10)
    | some (n, st) => if ¬ skipB st.left = [] then (0, [], 10) else if ¬ st.fell = 0 then (0, [], st.fell) else (n, st.sets, 0)
/-- The same from where the blanks end. -/
theorem ev_skip0 {look : Str → Int × Int} {f : Nat} {st : ASt} : ev look (f + 1) .set st.skip = ev look (f + 1) .set st := by
  have e : st.skip.skip = st.skip := by
    unfold ASt.skip
    simp only [skip_skip]
  conv => lhs; unfold ev
  conv => rhs; unfold ev
  rw [e]
section
variable {X : Ce} {σ : AS} {R : List Ck} {k : Value → AS → Prop} {vv : Value} {s : Str} {g i : Nat} {o : Go.Obj} {vars : List (Str × Str)} {F : Nat}
theorem eval_c (T : VarAt Tryz.prog "internal/strconv.uint64pow10" g o powV) (hE : ErrI X) (hV : VarsI X vv vars) (hL : LookI (lookV vars)) (hs : s.length ≤ maxLen) (hF : evF s ≤ F) (hg : R[i]? = some (Oth g o)) (h : Hs σ X R)
    (hk : ∀ u X' σ', Ce.le X X' → RepL X' u (txts (evalG (lookV vars) F s).2.1) → Hs σ' X' R → k (.tuple #[.int .i64 (evalG (lookV vars) F s).1, u, .int .i64 (evalG (lookV vars) F s).2.2]) σ') :
    kCall Tryz.prog 11 [.string (bs s), vv] σ k := by
  refine f11 ?_
  have nilR : ∀ X' : Ce, RepL X' (.slice none 0 0) ([] : List (Str × Str)) := fun X' => ⟨none, 0, rfl, Nat.le_refl _, by unfold maxLen; omega, .inl rfl⟩
  unfold maxLen at hs
  unfold evalG at hk
  (try simp (maxSteps := 1000000) (dsimp := false) (disch := (first | omega | (simp only [okR]; done) | (simp only [sizeR] <;> omega) | fail)) only [↓preR, postR, ↓w_stop, Nat.reduceEqDiff, Nat.reduceAdd, Nat.reduceSub, Nat.reduceMul, Int.reduceNeg, Nat.reduceLT, Int.reduceToNat, Nat.reduceLeDiff, Nat.sub_zero, F11])
  refine join_by fun J1 hJ1 => ?_
  by_cases hb : 4096 < s.length
  · have hb' : 4096 < (s.length : Int) := by omega
    rw [if_pos hb] at hk
    (try simp (maxSteps := 1000000) (dsimp := false) (disch := (first | omega | (simp only [okR]; done) | (simp only [sizeR] <;> omega) | fail)) only [↓preR, postR, ↓w_stop, Nat.reduceEqDiff, Nat.reduceAdd, Nat.reduceSub, Nat.reduceMul, Int.reduceNeg, Nat.reduceLT, Int.reduceToNat, Nat.reduceLeDiff, Nat.sub_zero, hb'])
    exact hk _ X σ (Ce.le_refl _) (nilR X) h
  have hb' : ¬ 4096 < (s.length : Int) := by omega
  rw [if_neg hb] at hk
  (try simp (maxSteps := 1000000) (dsimp := false) (disch := (first | omega | (simp only [okR]; done) | (simp only [sizeR] <;> omega) | fail)) only [↓preR, postR, ↓w_stop, Nat.reduceEqDiff, Nat.reduceAdd, Nat.reduceSub, Nat.reduceMul, Int.reduceNeg, Nat.reduceLT, Int.reduceToNat, Nat.reduceLeDiff, Nat.sub_zero, hb'])
  refine hJ1 _ _ ?_
  clear hJ1
  (try simp (maxSteps := 1000000) (dsimp := false) (disch := (first | omega | (simp only [okR]; done) | (simp only [sizeR] <;> omega) | fail)) only [↓preR, postR, ↓w_stop, Nat.reduceEqDiff, Nat.reduceAdd, Nat.reduceSub, Nat.reduceMul, Int.reduceNeg, Nat.reduceLT, Int.reduceToNat, Nat.reduceLeDiff, Nat.sub_zero])
  refine ops_c h fun m ops X1 s1 le1 hO h1 => ?_
  obtain ⟨va, vc, rfl, _⟩ := hV.r
  have hV := hV.mono le1
  have hE := hE.mono le1
  have h2 := h1.own0 (α := Str × Str)
  have h3 : Hs _ X1 (WkR s1.n m ops (.slice va vars.length vc) (.slice none 0 0) ⟨s, 0, 0, []⟩ false R) := h2.new (cs := wkC ⟨s, 0, 0, []⟩ false m (.slice va vars.length vc) (.slice none 0 0))
  (try simp (maxSteps := 1000000) (dsimp := false) (disch := (first | omega | (simp only [okR]; done) | (simp only [sizeR] <;> omega) | fail)) only [↓preR, postR, ↓w_stop, Nat.reduceEqDiff, Nat.reduceAdd, Nat.reduceSub, Nat.reduceMul, Int.reduceNeg, Nat.reduceLT, Int.reduceToNat, Nat.reduceLeDiff, Nat.sub_zero])
  generalize AS.new s1 _ = s2 at h3 ⊢
  generalize s1.n = p at h3 ⊢
  refine join_by fun J2 hJ2 => ?_
  (try simp (maxSteps := 1000000) (dsimp := false) (disch := (first | omega | (simp only [okR]; done) | (simp only [sizeR] <;> omega) | fail)) only [↓preR, postR, ↓w_stop, Nat.reduceEqDiff, Nat.reduceAdd, Nat.reduceSub, Nat.reduceMul, Int.reduceNeg, Nat.reduceLT, Int.reduceToNat, Nat.reduceLeDiff, Nat.sub_zero])
  refine next_c hO (by show s.length ≤ _; omega) h3 fun s3 h4 => ?_
  obtain ⟨s', hs'⟩ : ∃ s', s' = skipB s := ⟨_, rfl⟩
  have hsl : s'.length ≤ s.length := by rw [hs']; exact skip_len s
  have est : (ASt.mk s 0 0 []).skip = ⟨s', 0, 0, []⟩ := by rw [hs']; rfl
  rw [est] at h4 ⊢
  rw [← hs'] at hk
  by_cases he : s' = []
  · have en : nextP s' = [] := (next_nil _).2 he
    rw [if_pos he] at hk
    (try simp (maxSteps := 1000000) (dsimp := false) (disch := (first | omega | (simp only [okR]; done) | (simp only [sizeR] <;> omega) | fail)) only [↓preR, postR, ↓w_stop, Nat.reduceEqDiff, Nat.reduceAdd, Nat.reduceSub, Nat.reduceMul, Int.reduceNeg, Nat.reduceLT, Int.reduceToNat, Nat.reduceLeDiff, Nat.sub_zero, en])
    exact hk _ X1 _ le1 (nilR X1) h4.drop.drop.drop
  have en : ¬ nextP s' = [] := fun h => he ((next_nil _).1 h)
  rw [if_neg he] at hk
  (try simp (maxSteps := 1000000) (dsimp := false) (disch := (first | omega | (simp only [okR]; done) | (simp only [sizeR] <;> omega) | fail)) only [↓preR, postR, ↓w_stop, Nat.reduceEqDiff, Nat.reduceAdd, Nat.reduceSub, Nat.reduceMul, Int.reduceNeg, Nat.reduceLT, Int.reduceToNat, Nat.reduceLeDiff, Nat.sub_zero, en])
  refine hJ2 _ _ ?_
  clear hJ2
  (try simp (maxSteps := 1000000) (dsimp := false) (disch := (first | omega | (simp only [okR]; done) | (simp only [sizeR] <;> omega) | fail)) only [↓preR, postR, ↓w_stop, Nat.reduceEqDiff, Nat.reduceAdd, Nat.reduceSub, Nat.reduceMul, Int.reduceNeg, Nat.reduceLT, Int.reduceToNat, Nat.reduceLeDiff, Nat.sub_zero])
  have hI : InvS 4096 ⟨s', 0, 0, []⟩ := ⟨by show 0 + s'.length + 0 ≤ 4096; omega, setsI_nil _⟩
  refine (all_c (B := 4096) (by omega) T hO hE hV hL F F (Nat.le_refl _)).1 _ _ _ ⟨s', 0, 0, []⟩ false _ i (by show needs _ s'.length ≤ _; simp only [needs, evF] at hF ⊢; omega) hI hg h4 fun v st' b' u' s4 a h5 => ?_
  have a1 := a.ok rfl
  (try simp (maxSteps := 1000000) (dsimp := false) (disch := (first | omega | (simp only [okR]; done) | (simp only [sizeR] <;> omega) | fail)) only [↓preR, postR, ↓w_stop, Nat.reduceEqDiff, Nat.reduceAdd, Nat.reduceSub, Nat.reduceMul, Int.reduceNeg, Nat.reduceLT, Int.reduceToNat, Nat.reduceLeDiff, Nat.sub_zero])
  refine join_by fun J3 hJ3 => ?_
  have hl' : st'.left.length ≤ s'.length := a.lq.left
  have fail_ : (ev (lookV vars) F .set ⟨s', 0, 0, []⟩ = none ∨ ∃ q, ev (lookV vars) F .set ⟨s', 0, 0, []⟩ = some q ∧ ¬ skipB q.2.left = []) → ∀ s5, Hs s5 X1 R → k (.tuple #[.int .i64 0, .slice none 0 0, .int .i64 10]) s5 := by
    intro hf s5 h6
    rcases hf with hf | ⟨q, hf, hq⟩
    · rw [hf] at hk
      exact hk _ X1 _ le1 (nilR X1) h6
    · rw [hf] at hk
      simp only [if_pos hq] at hk
      exact hk _ X1 _ le1 (nilR X1) h6
  cases b' with
  | true =>
    (try simp (maxSteps := 1000000) (dsimp := false) (disch := (first | omega | (simp only [okR]; done) | (simp only [sizeR] <;> omega) | fail)) only [↓preR, postR, ↓w_stop, Nat.reduceEqDiff, Nat.reduceAdd, Nat.reduceSub, Nat.reduceMul, Int.reduceNeg, Nat.reduceLT, Int.reduceToNat, Nat.reduceLeDiff, Nat.sub_zero, h5.obj])
    refine fail_ (.inl ?_) _ h5.drop.drop.drop
    cases hq : ev (lookV vars) F .set ⟨s', 0, 0, []⟩ with
    | none => rfl
    | some q => rw [hq] at a1; have := a1.2.2; cases this
  | false =>
    obtain ⟨hev, hsl'⟩ : ev (lookV vars) F .set ⟨s', 0, 0, []⟩ = some (v, st') ∧ True := by
      cases hq : ev (lookV vars) F .set ⟨s', 0, 0, []⟩ with
      | none => rw [hq] at a1; cases a1
      | some q =>
        rw [hq] at a1
        obtain ⟨n, s2'⟩ := q
        obtain ⟨rfl, rfl, _⟩ := a1
        exact ⟨rfl, trivial⟩
    (try simp (maxSteps := 1000000) (dsimp := false) (disch := (first | omega | (simp only [okR]; done) | (simp only [sizeR] <;> omega) | fail)) only [↓preR, postR, ↓w_stop, Nat.reduceEqDiff, Nat.reduceAdd, Nat.reduceSub, Nat.reduceMul, Int.reduceNeg, Nat.reduceLT, Int.reduceToNat, Nat.reduceLeDiff, Nat.sub_zero, h5.obj])
    refine next_c hO (by omega) h5 fun s5 h6 => ?_
    by_cases he2 : skipB st'.left = []
    · have en2 : nextP st'.skip.left = [] := (next_nil _).2 he2
      rw [hev] at hk
      have hn2 : ¬ ¬ skipB st'.left = [] := fun h => h he2
      simp only [if_neg hn2] at hk
      by_cases hfl : st'.fell = 0
      · have hn3 : ¬ ¬ st'.fell = 0 := fun h => h hfl
        simp only [if_neg hn3] at hk
        have e3 : (st'.skip.fell = 0) = True := eq_true hfl
        obtain ⟨X2, le2, r2, h7⟩ := h6.drop.keep
        (try simp (maxSteps := 1000000) (dsimp := false) (disch := (first | omega | (simp only [okR]; done) | (simp only [sizeR] <;> omega) | fail)) only [↓preR, postR, ↓w_stop, Nat.reduceEqDiff, Nat.reduceAdd, Nat.reduceSub, Nat.reduceMul, Int.reduceNeg, Nat.reduceLT, Int.reduceToNat, Nat.reduceLeDiff, Nat.sub_zero, en2, h6.obj, e3])
        refine hJ3 _ _ ?_
        (try simp (maxSteps := 1000000) (dsimp := false) (disch := (first | omega | (simp only [okR]; done) | (simp only [sizeR] <;> omega) | fail)) only [↓preR, postR, ↓w_stop, Nat.reduceEqDiff, Nat.reduceAdd, Nat.reduceSub, Nat.reduceMul, Int.reduceNeg, Nat.reduceLT, Int.reduceToNat, Nat.reduceLeDiff, Nat.sub_zero, h6.obj])
        exact hk _ X2 _ (Ce.le_trans le1 le2) r2 h7.drop
      · simp only [if_pos hfl] at hk
        have e3 : ¬ st'.skip.fell = 0 := hfl
        (try simp (maxSteps := 1000000) (dsimp := false) (disch := (first | omega | (simp only [okR]; done) | (simp only [sizeR] <;> omega) | fail)) only [↓preR, postR, ↓w_stop, Nat.reduceEqDiff, Nat.reduceAdd, Nat.reduceSub, Nat.reduceMul, Int.reduceNeg, Nat.reduceLT, Int.reduceToNat, Nat.reduceLeDiff, Nat.sub_zero, en2, h6.obj, e3])
        exact hk _ X1 _ le1 (nilR X1) h6.drop.drop.drop
    · have en2 : ¬ nextP st'.skip.left = [] := fun h => he2 ((next_nil _).1 h)
      (try simp (maxSteps := 1000000) (dsimp := false) (disch := (first | omega | (simp only [okR]; done) | (simp only [sizeR] <;> omega) | fail)) only [↓preR, postR, ↓w_stop, Nat.reduceEqDiff, Nat.reduceAdd, Nat.reduceSub, Nat.reduceMul, Int.reduceNeg, Nat.reduceLT, Int.reduceToNat, Nat.reduceLeDiff, Nat.sub_zero, en2])
      exact fail_ (.inr ⟨_, hev, he2⟩) _ h6.drop.drop.drop
end
end Go.Proofs.YtkbpbagjbjkpmaaGreatDoor

/- Laws of expressions: what they share. Conditions: as each theorem says. -/
namespace Go.Proofs.YtkbpbagjbjkpmaaGreatDoor
open E Go.Lib
open Rp
set_option linter.unusedVariables false
set_option linter.unusedSimpArgs false
set_option maxHeartbeats 1000000
set_option maxRecDepth 20000

def few1 (p : Str × Str) : Bool := decide (p.1.length ≤ 100) && decide (p.2.length ≤ 100)
def fewP (l : List (Str × Str)) : Bool := decide (l.length ≤ 30) && l.all few1
theorem valueP_in (s : Str) : inI64 (valueP s).1 := by
  unfold valueP inI64
  split
  · simp
  · split
    · simp
    · rename_i n hn
      split
      · split
        · simp
        · simp only; omega
      · split
        · simp
        · simp only; omega
theorem look_all (l : List (Str × Str)) : LookI (lookV l) := fun s => valueP_in _
end Go.Proofs.YtkbpbagjbjkpmaaGreatDoor

/- The examples of arithmetic; an error sets nothing. Conditions: as each theorem says. -/
namespace Go.Proofs.YtkbpbagjbjkpmaaGreatDoor
open E Go.Lib
open Rp
set_option linter.unusedVariables false
set_option linter.unusedSimpArgs false
set_option maxHeartbeats 1000000
set_option maxRecDepth 20000

abbrev x5 : List (Str × Str) := [([120], [53])]
theorem aw1 (s : Str) (hs : s = [49, 32, 43, 32, 50, 32, 42, 32, 51]) : evalG (lookV []) (evF s) s = (7, [], 0) := by subst hs; kernel_rfl
theorem aw2 (s : Str) (hs : s = [121, 32, 61, 32, 120, 32, 60, 60, 32, 49]) : evalG (lookV x5) (evF s) s = (10, [([121], 10)], 0) := by subst hs; kernel_rfl
theorem aw3 (s : Str) (hs : s = [48, 32, 38, 38, 32, 49, 32, 47, 32, 48]) : evalG (lookV []) (evF s) s = (0, [], 0) := by subst hs; kernel_rfl
theorem aw4 (s : Str) (hs : s = [49, 32, 47, 32, 48]) : evalG (lookV []) (evF s) s = (0, [], 13) := by subst hs; kernel_rfl
theorem aw5 (s : Str) (hs : s = [120, 32, 62, 32, 51, 32, 63, 32, 120, 32, 58, 32, 45, 120]) : evalG (lookV x5) (evF s) s = (5, [], 0) := by subst hs; kernel_rfl
theorem itoa10 : itoa 10 = [49, 48] := by
  unfold itoa
  rw [if_neg (by decide)]
  show decDigits 10 = _
  rw [decDigits, dif_neg (by decide), decDigits, dif_pos (by decide)]
  rfl
/-- What a law stands on. -/
structure Law (X : Ce) (g : Nat) (o : Go.Obj) : Prop where
  t : VarAt Tryz.prog "internal/strconv.uint64pow10" g o powV
  e : ErrI X
theorem Law.mono {X X' : Ce} {g : Nat} {o : Go.Obj} (h : Law X g o) (hx : Ce.le X X') : Law X' g o := ⟨h.t, h.e.mono hx⟩
theorem nilV (X : Ce) : VarsI X (.slice none 0 0) [] := ⟨⟨none, 0, rfl, Nat.le_refl _, by unfold maxLen; omega, .inl rfl⟩, fun p hp => by cases hp⟩
section
variable {X : Ce} {σ : AS} {R : List Ck} {k : Value → AS → Prop} {v u vv : Value} {g i : Nat} {o : Go.Obj} {l : List (Str × Str)} {s : Str}
theorem evalL_c {F : Nat} (L : Law X g o) (hV : VarsI X vv l) (hs : s.length ≤ maxLen) (hF : evF s ≤ F) (h : Hs σ X [Oth g o])
    (hk : ∀ u X' σ', Ce.le X X' → RepL X' u (txts (evalG (lookV l) F s).2.1) → Hs σ' X' [Oth g o] → k (.tuple #[.int .i64 (evalG (lookV l) F s).1, u, .int .i64 (evalG (lookV l) F s).2.2]) σ') :
    kCall Tryz.prog 11 [.string (bs s), vv] σ k := eval_c L.t L.e hV (look_all _) hs hF (i := 0) rfl h hk
theorem awake_c (L : Law X g o) (h : Hs σ X [Oth g o]) (hk : ∀ X' σ', Ce.le X X' → Hs σ' X' [Oth g o] → k (.bool true) σ') : kCall Tryz.prog 7 [] σ k := by
  refine f7 ?_
  have hm1 : ([120] : Str).length ≤ maxLen := by unfold maxLen; decide
  have hm2 : ([53] : Str).length ≤ maxLen := by unfold maxLen; decide
  have h1 := (h.new (cs := [.string (bs [120]), .string (bs [53])])).lit (l := x5) (n := 1) (RpL.one (a := (([120] : Str), ([53] : Str))) ⟨[.string (bs [120])], [.string (bs [53])], rfl, ⟨rfl, hm1⟩, ⟨rfl, hm2⟩⟩) rfl (by unfold maxLen; omega)
  obtain ⟨X1, le1, r1, h2⟩ := h1.keep
  have hV : VarsI X1 (.slice (some ⟨σ.n, 0, none⟩) 1 1) x5 := ⟨r1, fun p hp => by simp only [List.mem_singleton] at hp; subst hp; decide⟩
  have L1 := L.mono le1
  (try simp (maxSteps := 1000000) (dsimp := false) (disch := (first | omega | (simp only [okR]; done) | (simp only [sizeR] <;> omega) | fail)) only [↓preR, postR, ↓w_stop, Nat.reduceEqDiff, Nat.reduceAdd, Nat.reduceSub, Nat.reduceMul, Int.reduceNeg, Nat.reduceLT, Int.reduceToNat, Nat.reduceLeDiff, Nat.sub_zero, F7])
  refine evalL_c L1 (nilV _) (s := [49, 32, 43, 32, 50, 32, 42, 32, 51]) (by unfold maxLen; decide) (Nat.le_refl _) h2 fun u2 X2 s2 le2 _ h3 => ?_
  rw [aw1 _ rfl]
  (try simp (maxSteps := 1000000) (dsimp := false) (disch := (first | omega | (simp only [okR]; done) | (simp only [sizeR] <;> omega) | fail)) only [↓preR, postR, ↓w_stop, Nat.reduceEqDiff, Nat.reduceAdd, Nat.reduceSub, Nat.reduceMul, Int.reduceNeg, Nat.reduceLT, Int.reduceToNat, Nat.reduceLeDiff, Nat.sub_zero])
  refine evalL_c (L1.mono le2) (hV.mono le2) (s := [121, 32, 61, 32, 120, 32, 60, 60, 32, 49]) (by unfold maxLen; decide) (Nat.le_refl _) h3 fun u3 X3 s3 le3 r3 h4 => ?_
  rw [aw2 _ rfl] at r3 ⊢
  have L3 := (L1.mono le2).mono le3
  have hV3 := (hV.mono le2).mono le3
  (try simp (maxSteps := 1000000) (dsimp := false) (disch := (first | omega | (simp only [okR]; done) | (simp only [sizeR] <;> omega) | fail)) only [↓preR, postR, ↓w_stop, Nat.reduceEqDiff, Nat.reduceAdd, Nat.reduceSub, Nat.reduceMul, Int.reduceNeg, Nat.reduceLT, Int.reduceToNat, Nat.reduceLeDiff, Nat.sub_zero])
  refine evalL_c L3 (nilV _) (s := [48, 32, 38, 38, 32, 49, 32, 47, 32, 48]) (by unfold maxLen; decide) (Nat.le_refl _) h4 fun u4 X4 s4 le4 _ h5 => ?_
  rw [aw3 _ rfl]
  (try simp (maxSteps := 1000000) (dsimp := false) (disch := (first | omega | (simp only [okR]; done) | (simp only [sizeR] <;> omega) | fail)) only [↓preR, postR, ↓w_stop, Nat.reduceEqDiff, Nat.reduceAdd, Nat.reduceSub, Nat.reduceMul, Int.reduceNeg, Nat.reduceLT, Int.reduceToNat, Nat.reduceLeDiff, Nat.sub_zero])
  refine evalL_c (L3.mono le4) (nilV _) (s := [49, 32, 47, 32, 48]) (by unfold maxLen; decide) (Nat.le_refl _) h5 fun u5 X5 s5 le5 _ h6 => ?_
  rw [aw4 _ rfl]
  (try simp (maxSteps := 1000000) (dsimp := false) (disch := (first | omega | (simp only [okR]; done) | (simp only [sizeR] <;> omega) | fail)) only [↓preR, postR, ↓w_stop, Nat.reduceEqDiff, Nat.reduceAdd, Nat.reduceSub, Nat.reduceMul, Int.reduceNeg, Nat.reduceLT, Int.reduceToNat, Nat.reduceLeDiff, Nat.sub_zero])
  refine evalL_c ((L3.mono le4).mono le5) ((hV3.mono le4).mono le5) (s := [120, 32, 62, 32, 51, 32, 63, 32, 120, 32, 58, 32, 45, 120]) (by unfold maxLen; decide) (Nat.le_refl _) h6 fun u6 X6 s6 le6 _ h7 => ?_
  rw [aw5 _ rfl]
  have r7 := ((r3.mono le4).mono le5).mono le6
  obtain ⟨va, vb, vo, vcap, rfl, hc, hm, hat⟩ := pair_at r7
  obtain ⟨rfl, c0, c1, _⟩ := hat 0 (by decide)
  have g0 := h7.ldx c0
  have g1 := h7.ldx c1
  have e1 : itoa 10 = ([49, 48] : Str) := itoa10
  unfold maxLen at hm
  have hx : ([([121], 10)] : List (Str × Int)).length = 1 := rfl
  simp only [txts, List.map_cons, List.map_nil, List.getElem_cons_zero, List.length_cons, List.length_nil, e1, Nat.zero_mul, Nat.add_zero] at g0 g1 hc ⊢
  (try simp (maxSteps := 1000000) (dsimp := false) (disch := (first | omega | (simp only [okR]; done) | (simp only [sizeR] <;> omega) | fail)) only [↓preR, postR, ↓w_stop, Nat.reduceEqDiff, Nat.reduceAdd, Nat.reduceSub, Nat.reduceMul, Int.reduceNeg, Nat.reduceLT, Int.reduceToNat, Nat.reduceLeDiff, Nat.sub_zero, g0, g1])
  refine seq_by (ks := [.s, .s]) (by kernel_rfl) [.s [121], .s [49, 48]] [.s [121], .s [49, 48]] rfl rfl ?_
  rw [decide_eq_true rfl]
  (try simp (maxSteps := 1000000) (dsimp := false) (disch := (first | omega | (simp only [okR]; done) | (simp only [sizeR] <;> omega) | fail)) only [↓preR, postR, ↓w_stop, Nat.reduceEqDiff, Nat.reduceAdd, Nat.reduceSub, Nat.reduceMul, Int.reduceNeg, Nat.reduceLT, Int.reduceToNat, Nat.reduceLeDiff, Nat.sub_zero])
  exact hk X6 _ (Ce.le_trans (Ce.le_trans (Ce.le_trans (Ce.le_trans (Ce.le_trans le1 le2) le3) le4) le5) le6) h7
end
section
variable {g : Nat} {o : Go.Obj}
/-- A law begins. -/
theorem law_st {W : World} {te te2 : Nat} {pe pe2 : Value} {f : Nat} {args : List Value} (T : VarAt Tryz.prog "internal/strconv.uint64pow10" g o powV) (ho : W.heap[g]? = some o) (hE : W.cell? ⟨3, 0, none⟩ = some (.iface te pe)) (hS : W.cell? ⟨2, 0, none⟩ = some (.iface te2 pe2))
    (h : ∀ σ, Law (startT W [g]).c g o → Hs σ (startT W [g]).c [Oth g o] → kCall Tryz.prog f args σ fun v σ' => v = .bool true ∧ ∃ X', Hs σ' X' [Oth g o]) : callP Tryz.prog f args W fun v w' => v = .bool true ∧ KeepP (fun _ => False) W w' := by
  have h0 : Hs (startT W [g]) (startT W [g]).c [Oth g o] := Hs.startT0.withT (startT_m (by simp) ho) (notX (by simp)) (fun C hC => by cases hC)
  have L : Law (startT W [g]).c g o := ⟨T, ⟨_, _, err_in T ho hS⟩, ⟨_, _, err_in T ho hE⟩⟩
  refine law_okT (gs := [g]) fun w hw => callP_mono (h _ L h0 w hw) fun v w' ⟨k1, σ', k2, k3, h1, X', h2⟩ => ⟨k1, σ', k2, k3, h1, fun g' o' hg' ho' => ?_⟩
  simp only [List.mem_singleton] at hg'
  subst hg'
  rw [ho] at ho'
  cases ho'
  exact h2.oth
end
end Go.Proofs.YtkbpbagjbjkpmaaGreatDoor
