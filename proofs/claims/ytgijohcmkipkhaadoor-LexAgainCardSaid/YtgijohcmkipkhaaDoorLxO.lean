/- The chapter's examples; where a thing ends. Conditions: as each theorem says. -/
import Derived.Test.YtgijohcmkipkhaaDoorLxN
import Derived.Test.YtgijohcmkipkhaaDoorLxE
namespace Go.Proofs.YtgijohcmkipkhaaDoor
open E Go.Lib
open Go.RowKit
set_option linter.unusedVariables false
set_option linter.unusedSimpArgs false
set_option maxHeartbeats 1000000
set_option maxRecDepth 20000

section
variable {σ σ' : AS} {X : Ce} {R : List Ck} {k : Value → AS → Prop} {s : Str} {u w : Value} {q : Bool} {i : Int}
theorem awake_c (h : Hs σ X R) (hk : ∀ X' σ', Ce.le X X' → Hs σ' X' R → k (.bool true) σ') : kCall Tryd.prog 7 [] σ k := by
  refine f7 ?_
  (try simp (maxSteps := 1000000) (dsimp := false) (disch := (first | omega | (simp only [okR]; done) | (simp only [sizeR] <;> omega) | fail)) only [↓preR, postR, ↓w_stop, Nat.reduceEqDiff, Nat.reduceAdd, Nat.reduceSub, Nat.reduceMul, Int.reduceNeg, Nat.reduceLT, Int.reduceToNat, Nat.reduceLeDiff, Nat.sub_zero, F7])
  refine lex_c (by simp) h fun X1 u1 s1 l1 h1 => ?_
  rw [ex1] at h1 ⊢
  (try simp (maxSteps := 1000000) (dsimp := false) (disch := (first | omega | (simp only [okR]; done) | (simp only [sizeR] <;> omega) | fail)) only [↓preR, postR, ↓w_stop, Nat.reduceEqDiff, Nat.reduceAdd, Nat.reduceSub, Nat.reduceMul, Int.reduceNeg, Nat.reduceLT, Int.reduceToNat, Nat.reduceLeDiff, Nat.sub_zero])
  refine lex_c (by simp) h1 fun X2 u2 s2 l2 h2 => ?_
  rw [ex2] at h2 ⊢
  (try simp (maxSteps := 1000000) (dsimp := false) (disch := (first | omega | (simp only [okR]; done) | (simp only [sizeR] <;> omega) | fail)) only [↓preR, postR, ↓w_stop, Nat.reduceEqDiff, Nat.reduceAdd, Nat.reduceSub, Nat.reduceMul, Int.reduceNeg, Nat.reduceLT, Int.reduceToNat, Nat.reduceLeDiff, Nat.sub_zero])
  refine lex_c (by simp) h2 fun X3 u3 s3 l3 h3 => ?_
  rw [ex3] at h3 ⊢
  (try simp (maxSteps := 1000000) (dsimp := false) (disch := (first | omega | (simp only [okR]; done) | (simp only [sizeR] <;> omega) | fail)) only [↓preR, postR, ↓w_stop, Nat.reduceEqDiff, Nat.reduceAdd, Nat.reduceSub, Nat.reduceMul, Int.reduceNeg, Nat.reduceLT, Int.reduceToNat, Nat.reduceLeDiff, Nat.sub_zero])
  refine lex_c (by simp) h3 fun X4 u4 s4 l4 h4 => ?_
  rw [ex4] at h4 ⊢
  simp only at h4 ⊢
  obtain ⟨g1, c1, y1, b1, rfl, d1, m1, e1, z1, _, k1, _⟩ := tok_at (n := 1) (h4.front 3 rfl) (by simp)
  obtain ⟨g1', c1', y1', b1', f1, _, _, e1', z1', _, _, t1, _⟩ := tok_at (n := 2) (h4.front 3 rfl) (by simp)
  injection f1 with f1 _ _
  injection f1 with f1
  injection f1 with f1 _ _
  subst f1
  obtain ⟨g2, c2, y2, b2, rfl, d2, m2, e2, z2, _, _, t2, _⟩ := tok_at (n := 1) (h4.front 2 rfl) (by simp)
  obtain ⟨g3, c3, y3, b3, rfl, d3, m3, e3, z3, _, _, _, _, t3, _⟩ := tok_at (n := 1) (h4.front 1 rfl) (by simp)
  obtain ⟨g4, c4, y4, b4, rfl, d4, m4, e4, z4, _⟩ := tok_at (n := 0) h4 (by simp)
  simp only [List.getElem_cons_succ, List.getElem_cons_zero] at k1 t1 t2 t3
  have ey : y1 = y1' := by
    have := e1.symm.trans e1'
    injection this with this
    injection this
  subst ey
  have k1' : y1[5]? = some (.int .i64 4) := k1
  have t1' : y1[11]? = some (.string (bs [62])) := t1
  have t2' : y2[6]? = some (.string (bs [59, 59])) := t2
  have t3' : y3[8]? = some (.string (bs [98, 10])) := t3
  (try simp (maxSteps := 1000000) (dsimp := false) (disch := (first | omega | (simp only [okR]; done) | (simp only [sizeR] <;> omega) | fail)) only [↓preR, postR, ↓w_stop, Nat.reduceEqDiff, Nat.reduceAdd, Nat.reduceSub, Nat.reduceMul, Int.reduceNeg, Nat.reduceLT, Int.reduceToNat, Nat.reduceLeDiff, Nat.sub_zero, e1, e2, e3, k1', t1', t2', t3'])
  exact hk X4 s4 (Ce.le_trans l1 (Ce.le_trans l2 (Ce.le_trans l3 l4))) h4.drop.drop.drop.drop
/-- What Piece answers. -/
def pieceP (s : Str) (i : Int) (q : Bool) : Int × Int × Int :=
  if i < 0 ∨ (s.length : Int) ≤ i then (0, 0, 1) else
  match go FU none (s.drop i.toNat) q (!q) false 0 with
  | .ok n => (i + n, 0, 0)
  | .bad e b => (0, i + b, e)
  | .cut => (0, 0, 0)
abbrev tup3 (t : Int × Int × Int) : Value := .tuple #[.int .i64 t.1, .int .i64 t.2.1, .int .i64 t.2.2]
theorem piece_c (hs : s.length ≤ 1000000) (hi : inI64 i) (h : Hs σ X R) (hk : ∀ σ', Hs σ' X R → k (tup3 (pieceP s i q)) σ') : kCall Tryd.prog 9 [.string (bs s), .int .i64 i, .bool q] σ k := by
  refine f9 ?_
  unfold pieceP at hk
  unfold inI64 at hi
  by_cases h0 : i < 0
  · rw [if_pos (.inl h0)] at hk
    (try simp (maxSteps := 1000000) (dsimp := false) (disch := (first | omega | (simp only [okR]; done) | (simp only [sizeR] <;> omega) | fail)) only [↓preR, postR, ↓w_stop, Nat.reduceEqDiff, Nat.reduceAdd, Nat.reduceSub, Nat.reduceMul, Int.reduceNeg, Nat.reduceLT, Int.reduceToNat, Nat.reduceLeDiff, Nat.sub_zero, F9])
    refine join_now ?_
    (try simp (maxSteps := 1000000) (dsimp := false) (disch := (first | omega | (simp only [okR]; done) | (simp only [sizeR] <;> omega) | fail)) only [↓preR, postR, ↓w_stop, Nat.reduceEqDiff, Nat.reduceAdd, Nat.reduceSub, Nat.reduceMul, Int.reduceNeg, Nat.reduceLT, Int.reduceToNat, Nat.reduceLeDiff, Nat.sub_zero])
    exact hk _ h
  by_cases h1 : (s.length : Int) ≤ i
  · rw [if_pos (.inr h1)] at hk
    (try simp (maxSteps := 1000000) (dsimp := false) (disch := (first | omega | (simp only [okR]; done) | (simp only [sizeR] <;> omega) | fail)) only [↓preR, postR, ↓w_stop, Nat.reduceEqDiff, Nat.reduceAdd, Nat.reduceSub, Nat.reduceMul, Int.reduceNeg, Nat.reduceLT, Int.reduceToNat, Nat.reduceLeDiff, Nat.sub_zero, F9])
    refine join_now ?_
    (try simp (maxSteps := 1000000) (dsimp := false) (disch := (first | omega | (simp only [okR]; done) | (simp only [sizeR] <;> omega) | fail)) only [↓preR, postR, ↓w_stop, Nat.reduceEqDiff, Nat.reduceAdd, Nat.reduceSub, Nat.reduceMul, Int.reduceNeg, Nat.reduceLT, Int.reduceToNat, Nat.reduceLeDiff, Nat.sub_zero])
    exact hk _ h
  rw [if_neg (by omega)] at hk
  obtain ⟨n, rfl⟩ : ∃ n : Nat, i = n := ⟨i.toNat, by omega⟩
  rw [Int.toNat_natCast] at hk
  (try simp (maxSteps := 1000000) (dsimp := false) (disch := (first | omega | (simp only [okR]; done) | (simp only [sizeR] <;> omega) | fail)) only [↓preR, postR, ↓w_stop, Nat.reduceEqDiff, Nat.reduceAdd, Nat.reduceSub, Nat.reduceMul, Int.reduceNeg, Nat.reduceLT, Int.reduceToNat, Nat.reduceLeDiff, Nat.sub_zero, F9])
  refine join_now ?_
  have h2 : Hs _ X (Cel σ.n (rdC 0 0 s n 0 []) :: R) := h.new
  (try simp (maxSteps := 1000000) (dsimp := false) (disch := (first | omega | (simp only [okR]; done) | (simp only [sizeR] <;> omega) | fail)) only [↓preR, postR, ↓w_stop, Nat.reduceEqDiff, Nat.reduceAdd, Nat.reduceSub, Nat.reduceMul, Int.reduceNeg, Nat.reduceLT, Int.reduceToNat, Nat.reduceLeDiff, Nat.sub_zero])
  generalize AS.new σ _ = s1 at h2 ⊢
  generalize σ.n = p at h2 ⊢
  refine thing_c FU (bat := 0) (deep := 0) (rest := []) (by show _ ≤ 2100000; omega) (by omega) (by omega) hs h2 ?_
  cases hg : go FU none (s.drop n) q (!q) false 0 with
  | ok m =>
    rw [hg] at hk
    intro v s2 h3
    (try simp (maxSteps := 1000000) (dsimp := false) (disch := (first | omega | (simp only [okR]; done) | (simp only [sizeR] <;> omega) | fail)) only [↓preR, postR, ↓w_stop, Nat.reduceEqDiff, Nat.reduceAdd, Nat.reduceSub, Nat.reduceMul, Int.reduceNeg, Nat.reduceLT, Int.reduceToNat, Nat.reduceLeDiff, Nat.sub_zero])
    refine join_now ?_
    (try simp (maxSteps := 1000000) (dsimp := false) (disch := (first | omega | (simp only [okR]; done) | (simp only [sizeR] <;> omega) | fail)) only [↓preR, postR, ↓w_stop, Nat.reduceEqDiff, Nat.reduceAdd, Nat.reduceSub, Nat.reduceMul, Int.reduceNeg, Nat.reduceLT, Int.reduceToNat, Nat.reduceLeDiff, Nat.sub_zero])
    refine wrong_c h3 ?_
    (try simp (maxSteps := 1000000) (dsimp := false) (disch := (first | omega | (simp only [okR]; done) | (simp only [sizeR] <;> omega) | fail)) only [↓preR, postR, ↓w_stop, Nat.reduceEqDiff, Nat.reduceAdd, Nat.reduceSub, Nat.reduceMul, Int.reduceNeg, Nat.reduceLT, Int.reduceToNat, Nat.reduceLeDiff, Nat.sub_zero, h3.obj])
    have := hk s2 h3.drop
    simpa using this
  | bad e b =>
    rw [hg] at hk
    have he : ¬ e = 0 := by have := (go_bad hg).2; omega
    intro v s2 at' dp hat h3
    (try simp (maxSteps := 1000000) (dsimp := false) (disch := (first | omega | (simp only [okR]; done) | (simp only [sizeR] <;> omega) | fail)) only [↓preR, postR, ↓w_stop, Nat.reduceEqDiff, Nat.reduceAdd, Nat.reduceSub, Nat.reduceMul, Int.reduceNeg, Nat.reduceLT, Int.reduceToNat, Nat.reduceLeDiff, Nat.sub_zero])
    refine join_now ?_
    (try simp (maxSteps := 1000000) (dsimp := false) (disch := (first | omega | (simp only [okR]; done) | (simp only [sizeR] <;> omega) | fail)) only [↓preR, postR, ↓w_stop, Nat.reduceEqDiff, Nat.reduceAdd, Nat.reduceSub, Nat.reduceMul, Int.reduceNeg, Nat.reduceLT, Int.reduceToNat, Nat.reduceLeDiff, Nat.sub_zero])
    refine wrong_c h3 ?_
    (try simp (maxSteps := 1000000) (dsimp := false) (disch := (first | omega | (simp only [okR]; done) | (simp only [sizeR] <;> omega) | fail)) only [↓preR, postR, ↓w_stop, Nat.reduceEqDiff, Nat.reduceAdd, Nat.reduceSub, Nat.reduceMul, Int.reduceNeg, Nat.reduceLT, Int.reduceToNat, Nat.reduceLeDiff, Nat.sub_zero, h3.obj, he])
    have := hk s2 h3.drop
    simpa using this
  | cut => trivial
theorem rpiece_c (hs : s.length ≤ 1000000) (hi : inI64 i) (h : Hs σ X R) (hk : ∀ σ', Hs σ' X R → k (tup3 (pieceP s i q)) σ') : kCall Tryd.prog 10 [.string (bs s), .int .i64 i, .bool q] σ k := by
  refine f10 ?_
  unfold pieceP at hk
  unfold inI64 at hi
  by_cases h0 : i < 0
  · rw [if_pos (.inl h0)] at hk
    (try simp (maxSteps := 1000000) (dsimp := false) (disch := (first | omega | (simp only [okR]; done) | (simp only [sizeR] <;> omega) | fail)) only [↓preR, postR, ↓w_stop, Nat.reduceEqDiff, Nat.reduceAdd, Nat.reduceSub, Nat.reduceMul, Int.reduceNeg, Nat.reduceLT, Int.reduceToNat, Nat.reduceLeDiff, Nat.sub_zero, F10])
    refine join_now ?_
    (try simp (maxSteps := 1000000) (dsimp := false) (disch := (first | omega | (simp only [okR]; done) | (simp only [sizeR] <;> omega) | fail)) only [↓preR, postR, ↓w_stop, Nat.reduceEqDiff, Nat.reduceAdd, Nat.reduceSub, Nat.reduceMul, Int.reduceNeg, Nat.reduceLT, Int.reduceToNat, Nat.reduceLeDiff, Nat.sub_zero])
    exact hk _ h
  by_cases h1 : (s.length : Int) ≤ i
  · rw [if_pos (.inr h1)] at hk
    (try simp (maxSteps := 1000000) (dsimp := false) (disch := (first | omega | (simp only [okR]; done) | (simp only [sizeR] <;> omega) | fail)) only [↓preR, postR, ↓w_stop, Nat.reduceEqDiff, Nat.reduceAdd, Nat.reduceSub, Nat.reduceMul, Int.reduceNeg, Nat.reduceLT, Int.reduceToNat, Nat.reduceLeDiff, Nat.sub_zero, F10])
    refine join_now ?_
    (try simp (maxSteps := 1000000) (dsimp := false) (disch := (first | omega | (simp only [okR]; done) | (simp only [sizeR] <;> omega) | fail)) only [↓preR, postR, ↓w_stop, Nat.reduceEqDiff, Nat.reduceAdd, Nat.reduceSub, Nat.reduceMul, Int.reduceNeg, Nat.reduceLT, Int.reduceToNat, Nat.reduceLeDiff, Nat.sub_zero])
    exact hk _ h
  rw [if_neg (by omega)] at hk
  obtain ⟨n, rfl⟩ : ∃ n : Nat, i = n := ⟨i.toNat, by omega⟩
  rw [Int.toNat_natCast] at hk
  (try simp (maxSteps := 1000000) (dsimp := false) (disch := (first | omega | (simp only [okR]; done) | (simp only [sizeR] <;> omega) | fail)) only [↓preR, postR, ↓w_stop, Nat.reduceEqDiff, Nat.reduceAdd, Nat.reduceSub, Nat.reduceMul, Int.reduceNeg, Nat.reduceLT, Int.reduceToNat, Nat.reduceLeDiff, Nat.sub_zero, F10])
  refine join_now ?_
  (try simp (maxSteps := 1000000) (dsimp := false) (disch := (first | omega | (simp only [okR]; done) | (simp only [sizeR] <;> omega) | fail)) only [↓preR, postR, ↓w_stop, Nat.reduceEqDiff, Nat.reduceAdd, Nat.reduceSub, Nat.reduceMul, Int.reduceNeg, Nat.reduceLT, Int.reduceToNat, Nat.reduceLeDiff, Nat.sub_zero])
  refine join_by fun J hJ => ?_
  have tail : ∀ w : Int, (w = 0 ∧ q = false ∨ w = 1 ∧ q = true) → J [.int .i64 w] σ := by
    intro w hw
    refine hJ _ _ ?_
    clear hJ
    (try simp (maxSteps := 1000000) (dsimp := false) (disch := (first | omega | (simp only [okR]; done) | (simp only [sizeR] <;> omega) | fail)) only [↓preR, postR, ↓w_stop, Nat.reduceEqDiff, Nat.reduceAdd, Nat.reduceSub, Nat.reduceMul, Int.reduceNeg, Nat.reduceLT, Int.reduceToNat, Nat.reduceLeDiff, Nat.sub_zero])
    have e1 : qW w = q ∧ dW w = (!q) ∧ bW w = false := by
      rcases hw with ⟨rfl, rfl⟩ | ⟨rfl, rfl⟩ <;> exact ⟨rfl, rfl, rfl⟩
    refine rthing_c FU (deep := 0) (by show _ ≤ 2100000; omega) (by omega) (by omega) hs (by unfold inI64; omega) h ?_
    rw [e1.1, e1.2.1, e1.2.2]
    cases hg : go FU none (s.drop n) q (!q) false 0 with
    | ok m =>
      rw [hg] at hk
      intro s2 h3
      have h4 := (h3.new (cs := atC 0 0 0)).put (cs' := atC ((n + m : Nat) : Int) 0 0)
      (try simp (maxSteps := 1000000) (dsimp := false) (disch := (first | omega | (simp only [okR]; done) | (simp only [sizeR] <;> omega) | fail)) only [↓preR, postR, ↓w_stop, Nat.reduceEqDiff, Nat.reduceAdd, Nat.reduceSub, Nat.reduceMul, Int.reduceNeg, Nat.reduceLT, Int.reduceToNat, Nat.reduceLeDiff, Nat.sub_zero, h4.obj])
      have := hk _ h4.drop
      simpa using this
    | bad e b =>
      rw [hg] at hk
      intro s2 h3
      have h4 := (h3.new (cs := atC 0 0 0)).put (cs' := atC 0 ((n + b : Nat) : Int) e)
      (try simp (maxSteps := 1000000) (dsimp := false) (disch := (first | omega | (simp only [okR]; done) | (simp only [sizeR] <;> omega) | fail)) only [↓preR, postR, ↓w_stop, Nat.reduceEqDiff, Nat.reduceAdd, Nat.reduceSub, Nat.reduceMul, Int.reduceNeg, Nat.reduceLT, Int.reduceToNat, Nat.reduceLeDiff, Nat.sub_zero, h4.obj])
      have := hk _ h4.drop
      simpa using this
    | cut => trivial
  clear hJ
  cases q with
  | true => (try simp (maxSteps := 1000000) (dsimp := false) (disch := (first | omega | (simp only [okR]; done) | (simp only [sizeR] <;> omega) | fail)) only [↓preR, postR, ↓w_stop, Nat.reduceEqDiff, Nat.reduceAdd, Nat.reduceSub, Nat.reduceMul, Int.reduceNeg, Nat.reduceLT, Int.reduceToNat, Nat.reduceLeDiff, Nat.sub_zero]); exact tail 1 (.inr ⟨rfl, rfl⟩)
  | false => (try simp (maxSteps := 1000000) (dsimp := false) (disch := (first | omega | (simp only [okR]; done) | (simp only [sizeR] <;> omega) | fail)) only [↓preR, postR, ↓w_stop, Nat.reduceEqDiff, Nat.reduceAdd, Nat.reduceSub, Nat.reduceMul, Int.reduceNeg, Nat.reduceLT, Int.reduceToNat, Nat.reduceLeDiff, Nat.sub_zero]); exact tail 0 (.inl ⟨rfl, rfl⟩)
theorem pieces_law {v0 v1 v2 : Value} {c : Ce} (h : Hs σ c []) (A0 : OV c (shOf Tryd.prog 8 9) v0) (A1 : OV c (shOf Tryd.prog 8 3) v1) (A2 : OV c (shOf Tryd.prog 8 4) v2) :
    kCall Tryd.prog 6 [v0, v1, v2] σ fun v _ => v = .bool true := by
  rw [show shOf Tryd.prog 8 9 = .str from by kernel_rfl] at A0
  rw [show shOf Tryd.prog 8 3 = .int .i64 from by kernel_rfl] at A1
  rw [show shOf Tryd.prog 8 4 = .bool from by kernel_rfl] at A2
  obtain ⟨s, rfl, hs⟩ := arg_str A0
  obtain ⟨i, rfl, hi⟩ := arg_int A1
  obtain ⟨q, rfl⟩ := arg_bool A2
  refine f6 ?_
  unfold maxLen at hs
  by_cases hl : 1000 < s.length
  · (try simp (maxSteps := 1000000) (dsimp := false) (disch := (first | omega | (simp only [okR]; done) | (simp only [sizeR] <;> omega) | fail)) only [↓preR, postR, ↓w_stop, Nat.reduceEqDiff, Nat.reduceAdd, Nat.reduceSub, Nat.reduceMul, Int.reduceNeg, Nat.reduceLT, Int.reduceToNat, Nat.reduceLeDiff, Nat.sub_zero, F6])
    refine join_now ?_
    (try simp (maxSteps := 1000000) (dsimp := false) (disch := (first | omega | (simp only [okR]; done) | (simp only [sizeR] <;> omega) | fail)) only [↓preR, postR, ↓w_stop, Nat.reduceEqDiff, Nat.reduceAdd, Nat.reduceSub, Nat.reduceMul, Int.reduceNeg, Nat.reduceLT, Int.reduceToNat, Nat.reduceLeDiff, Nat.sub_zero])
    refine awake_c h fun X' s1 _ h1 => ?_
    (try simp (maxSteps := 1000000) (dsimp := false) (disch := (first | omega | (simp only [okR]; done) | (simp only [sizeR] <;> omega) | fail)) only [↓preR, postR, ↓w_stop, Nat.reduceEqDiff, Nat.reduceAdd, Nat.reduceSub, Nat.reduceMul, Int.reduceNeg, Nat.reduceLT, Int.reduceToNat, Nat.reduceLeDiff, Nat.sub_zero])
  · (try simp (maxSteps := 1000000) (dsimp := false) (disch := (first | omega | (simp only [okR]; done) | (simp only [sizeR] <;> omega) | fail)) only [↓preR, postR, ↓w_stop, Nat.reduceEqDiff, Nat.reduceAdd, Nat.reduceSub, Nat.reduceMul, Int.reduceNeg, Nat.reduceLT, Int.reduceToNat, Nat.reduceLeDiff, Nat.sub_zero, F6])
    refine join_now ?_
    (try simp (maxSteps := 1000000) (dsimp := false) (disch := (first | omega | (simp only [okR]; done) | (simp only [sizeR] <;> omega) | fail)) only [↓preR, postR, ↓w_stop, Nat.reduceEqDiff, Nat.reduceAdd, Nat.reduceSub, Nat.reduceMul, Int.reduceNeg, Nat.reduceLT, Int.reduceToNat, Nat.reduceLeDiff, Nat.sub_zero])
    refine piece_c (by omega) hi h fun s1 h1 => ?_
    (try simp (maxSteps := 1000000) (dsimp := false) (disch := (first | omega | (simp only [okR]; done) | (simp only [sizeR] <;> omega) | fail)) only [↓preR, postR, ↓w_stop, Nat.reduceEqDiff, Nat.reduceAdd, Nat.reduceSub, Nat.reduceMul, Int.reduceNeg, Nat.reduceLT, Int.reduceToNat, Nat.reduceLeDiff, Nat.sub_zero])
    refine rpiece_c (by omega) hi h1 fun s2 h2 => ?_
    (try simp (maxSteps := 1000000) (dsimp := false) (disch := (first | omega | (simp only [okR]; done) | (simp only [sizeR] <;> omega) | fail)) only [↓preR, postR, ↓w_stop, Nat.reduceEqDiff, Nat.reduceAdd, Nat.reduceSub, Nat.reduceMul, Int.reduceNeg, Nat.reduceLT, Int.reduceToNat, Nat.reduceLeDiff, Nat.sub_zero])
    refine awake_c h2 fun X' s3 _ h3 => ?_
    (try simp (maxSteps := 1000000) (dsimp := false) (disch := (first | omega | (simp only [okR]; done) | (simp only [sizeR] <;> omega) | fail)) only [↓preR, postR, ↓w_stop, Nat.reduceEqDiff, Nat.reduceAdd, Nat.reduceSub, Nat.reduceMul, Int.reduceNeg, Nat.reduceLT, Int.reduceToNat, Nat.reduceLeDiff, Nat.sub_zero])
end
end Go.Proofs.YtgijohcmkipkhaaDoor
