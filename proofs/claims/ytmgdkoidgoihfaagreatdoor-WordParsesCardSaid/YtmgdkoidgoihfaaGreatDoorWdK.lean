/- Words: whether two are the same. Conditions: as each theorem says. -/
import Derived.Test.YtmgdkoidgoihfaaGreatDoorWdB
import Derived.Test.YtmgdkoidgoihfaaGreatDoorWdA
import Derived.Test.YtmgdkoidgoihfaaGreatDoorC
namespace Go.Proofs.YtmgdkoidgoihfaaGreatDoor
open E Go.Lib
open Go.RowKit
set_option linter.unusedVariables false
set_option linter.unusedSimpArgs false
set_option maxHeartbeats 1000000
set_option maxRecDepth 20000

mutual
def eqPt : Pt → Pt → Bool
  | .mk k t q o c w, .mk k' t' q' o' c' w' => decide (k = k') && (decide (t = t') && ((q == q') && (decide (o = o') && ((c == c') && eqW w w'))))
def eqW : List Pt → List Pt → Bool
  | [], [] => true
  | p :: l, q :: m => eqPt p q && eqW l m
  | [], _ :: _ => false
  | _ :: _, [] => false
end
mutual
theorem eqPt_iff : ∀ (p q : Pt), eqPt p q = true ↔ p = q
  | .mk k t q o c w, .mk k' t' q' o' c' w' => by
    have := eqW_iff w w'
    simp only [eqPt, Bool.and_eq_true, decide_eq_true_eq, beq_iff_eq, this, Pt.mk.injEq]
theorem eqW_iff : ∀ (l m : List Pt), eqW l m = true ↔ l = m
  | [], [] => by simp [eqW]
  | p :: l, q :: m => by
    have h1 := eqPt_iff p q
    have h2 := eqW_iff l m
    simp only [eqW, Bool.and_eq_true, h1, h2, List.cons.injEq]
  | [], _ :: _ => by simp [eqW]
  | _ :: _, [] => by simp [eqW]
end
theorem eqW_refl (l : List Pt) : eqW l l = true := (eqW_iff l l).2 rfl
theorem eqW_len {l m : List Pt} (h : ¬ l.length = m.length) : eqW l m = false := by
  cases he : eqW l m with
  | false => rfl
  | true => exact (h (by rw [(eqW_iff l m).1 he])).elim
theorem eqPt_def (p q : Pt) : eqPt p q = (decide (p.kind = q.kind) && (decide (p.text = q.text) && ((p.quote == q.quote) && (decide (p.op = q.op) && ((p.colon == q.colon) && eqW p.word q.word))))) := by
  cases p; cases q; rw [eqPt]; rfl
theorem szPt_word (p : Pt) : szW p.word < szPt p := by
  cases p with
  | mk k t q o c w => unfold szPt; show szW w < _; omega
section
variable {σ σ' : AS} {X : Ce} {R : List Ck} {k : Value → AS → Prop} {n i f : Nat} {l m : List Pt} {u v : Value}
theorem same_c : ∀ (n : Nat) {σ : AS} {X : Ce} {R : List Ck} {k : Value → AS → Prop} {l m : List Pt} {v u : Value}, szW l < n → RepL X v l → RepL X u m → Hs σ X R → (∀ σ', Hs σ' X R → k (.bool (eqW l m)) σ') → kCall Tryz.prog 34 [v, u] σ k := by
  intro n
  induction n with
  | zero => intro σ X R k l m v u hn; omega
  | succ n ih =>
    intro σ X R k l m v u hn hv hu h hk
    obtain ⟨a, b, o, cap, rfl, hc, hm, hat⟩ := pts_at hv
    obtain ⟨a', b', o', cap', rfl, hc', hm', hat'⟩ := pts_at hu
    unfold maxLen at hm hm'
    refine f34 ?_
    (try simp (maxSteps := 1000000) (dsimp := false) (disch := (first | omega | (simp only [okR]; done) | (simp only [sizeR] <;> omega) | fail)) only [↓preR, postR, ↓w_stop, Nat.reduceEqDiff, Nat.reduceAdd, Nat.reduceSub, Nat.reduceMul, Int.reduceNeg, Nat.reduceLT, Int.reduceToNat, Nat.reduceLeDiff, Nat.sub_zero, F34])
    refine f57 ?_
    (try simp (maxSteps := 1000000) (dsimp := false) (disch := (first | omega | (simp only [okR]; done) | (simp only [sizeR] <;> omega) | fail)) only [↓preR, postR, ↓w_stop, Nat.reduceEqDiff, Nat.reduceAdd, Nat.reduceSub, Nat.reduceMul, Int.reduceNeg, Nat.reduceLT, Int.reduceToNat, Nat.reduceLeDiff, Nat.sub_zero, F57])
    refine join_now ?_
    by_cases hl : l.length = m.length
    rotate_left
    · rw [eqW_len hl] at hk
      (try simp (maxSteps := 1000000) (dsimp := false) (disch := (first | omega | (simp only [okR]; done) | (simp only [sizeR] <;> omega) | fail)) only [↓preR, postR, ↓w_stop, Nat.reduceEqDiff, Nat.reduceAdd, Nat.reduceSub, Nat.reduceMul, Int.reduceNeg, Nat.reduceLT, Int.reduceToNat, Nat.reduceLeDiff, Nat.sub_zero])
      exact hk _ h
    (try simp (maxSteps := 1000000) (dsimp := false) (disch := (first | omega | (simp only [okR]; done) | (simp only [sizeR] <;> omega) | fail)) only [↓preR, postR, ↓w_stop, Nat.reduceEqDiff, Nat.reduceAdd, Nat.reduceSub, Nat.reduceMul, Int.reduceNeg, Nat.reduceLT, Int.reduceToNat, Nat.reduceLeDiff, Nat.sub_zero])
    refine join_now ?_
    (try simp (maxSteps := 1000000) (dsimp := false) (disch := (first | omega | (simp only [okR]; done) | (simp only [sizeR] <;> omega) | fail)) only [↓preR, postR, ↓w_stop, Nat.reduceEqDiff, Nat.reduceAdd, Nat.reduceSub, Nat.reduceMul, Int.reduceNeg, Nat.reduceLT, Int.reduceToNat, Nat.reduceLeDiff, Nat.sub_zero])
    refine loop_inv (fun nn xs s1 => ∃ j : Nat, xs = [.int .i64 j] ∧ j ≤ l.length ∧ Hs s1 X R ∧ eqW (l.drop j) (m.drop j) = eqW l m ∧ nn = l.length - j) _ ⟨0, rfl, Nat.zero_le _, h, rfl, rfl⟩ ?_
    rintro _ _ s1 again ⟨j, rfl, hj, h1, he, rfl⟩ hag
    (try simp (maxSteps := 1000000) (dsimp := false) (disch := (first | omega | (simp only [okR]; done) | (simp only [sizeR] <;> omega) | fail)) only [↓preR, postR, ↓w_stop, Nat.reduceEqDiff, Nat.reduceAdd, Nat.reduceSub, Nat.reduceMul, Int.reduceNeg, Nat.reduceLT, Int.reduceToNat, Nat.reduceLeDiff, Nat.sub_zero])
    refine join_now ?_
    by_cases hlt : j < l.length
    · have hlt' : j < m.length := by omega
      rw [List.drop_eq_getElem_cons hlt, List.drop_eq_getElem_cons hlt'] at he
      simp only [eqW] at he
      obtain ⟨rfl, w, g0, g1, g2, g3, g4, c0, c1, c2, c3, c4, c5⟩ := hat j hlt
      obtain ⟨rfl, w', g0', g1', g2', g3', g4', c0', c1', c2', c3', c4', c5'⟩ := hat' j hlt'
      have hszl := sz_get l j hlt
      generalize l[j] = x at *
      generalize m[j] = y at *
      have hszx := szPt_word x
      obtain ⟨va, vn, vc, rfl⟩ := g0.val
      obtain ⟨va', vn', vc', rfl⟩ := g0'.val
      (try simp (maxSteps := 1000000) (dsimp := false) (disch := (first | omega | (simp only [okR]; done) | (simp only [sizeR] <;> omega) | fail)) only [↓preR, postR, ↓w_stop, Nat.reduceEqDiff, Nat.reduceAdd, Nat.reduceSub, Nat.reduceMul, Int.reduceNeg, Nat.reduceLT, Int.reduceToNat, Nat.reduceLeDiff, Nat.sub_zero])
      refine join_now ?_
      have d0 := h1.ldx c0
      have d1 := h1.ldx c1
      have d2 := h1.ldx c2
      have d3 := h1.ldx c3
      have d4 := h1.ldx c4
      have d5 := h1.ldx c5
      have h2 := h1.new (cs := [.int .i64 0, .string (bs []), .bool false, .int .i64 0, .bool false, .slice none 0 0])
      have h3 := h2.put (cs' := ptC x (.slice va vn vc))
      have f0 := h3.ldx c0'
      have f1 := h3.ldx c1'
      have f2 := h3.ldx c2'
      have f3 := h3.ldx c3'
      have f4 := h3.ldx c4'
      have f5 := h3.ldx c5'
      (try simp (maxSteps := 1000000) (dsimp := false) (disch := (first | omega | (simp only [okR]; done) | (simp only [sizeR] <;> omega) | fail)) only [↓preR, postR, ↓w_stop, Nat.reduceEqDiff, Nat.reduceAdd, Nat.reduceSub, Nat.reduceMul, Int.reduceNeg, Nat.reduceLT, Int.reduceToNat, Nat.reduceLeDiff, Nat.sub_zero, d0, d1, d2, d3, d4, d5, h2.obj])
      generalize hb : s1.n = q1 at h3 f0 f1 f2 f3 f4 f5 ⊢
      generalize hs3 : AS.put _ q1 _ = s3 at h3 f0 f1 f2 f3 f4 f5 ⊢
      rw [show s1.c = s3.c from by rw [← hs3]; rfl] 
      have h4 := h3.new (cs := [.int .i64 0, .string (bs []), .bool false, .int .i64 0, .bool false, .slice none 0 0])
      have h5 := h4.put (cs' := ptC y (.slice va' vn' vc'))
      (try simp (maxSteps := 1000000) (dsimp := false) (disch := (first | omega | (simp only [okR]; done) | (simp only [sizeR] <;> omega) | fail)) only [↓preR, postR, ↓w_stop, Nat.reduceEqDiff, Nat.reduceAdd, Nat.reduceSub, Nat.reduceMul, Int.reduceNeg, Nat.reduceLT, Int.reduceToNat, Nat.reduceLeDiff, Nat.sub_zero, f0, f1, f2, f3, f4, f5, h4.obj, h5.obj, h5.obj1])
      generalize AS.put _ s3.n _ = s5 at h5 ⊢
      have h6 := h5.drop.drop
      clear h5 h4 h3 hs3 f0 f1 f2 f3 f4 f5 d0 d1 d2 d3 d4 d5 h2
      refine ⟨k58_ok, ?_⟩
      refine f58 ?_
      have h7 := h6.new (cs := ptC x (.slice va vn vc))
      have h8 := h7.new (cs := ptC y (.slice va' vn' vc'))
      have e1 := h8.obj
      have e2 := h8.obj1
      (try simp (maxSteps := 1000000) (dsimp := false) (disch := (first | omega | (simp only [okR]; done) | (simp only [sizeR] <;> omega) | fail)) only [↓preR, postR, ↓w_stop, Nat.reduceEqDiff, Nat.reduceAdd, Nat.reduceSub, Nat.reduceMul, Int.reduceNeg, Nat.reduceLT, Int.reduceToNat, Nat.reduceLeDiff, Nat.sub_zero, F58, e1, e2])
      have no : eqPt x y = false → ∀ s6, Hs s6 X R → k (.bool false) s6 := by
        intro hbb s6 h9
        rw [hbb, Bool.false_and] at he
        rw [← he] at hk
        exact hk _ h9
      have yes : eqPt x y = true → ∀ s6, Hs s6 X R → again [.int .i64 ((j : Int) + 1)] s6 := by
        intro hbb s6 h9
        rw [hbb, Bool.true_and] at he
        exact hag _ _ _ ⟨j + 1, rfl, hlt, h9, he, rfl⟩ (by omega)
      rw [eqPt_def] at no yes
      by_cases k1 : x.kind = y.kind
      rotate_left
      · (try simp (maxSteps := 1000000) (dsimp := false) (disch := (first | omega | (simp only [okR]; done) | (simp only [sizeR] <;> omega) | fail)) only [↓preR, postR, ↓w_stop, Nat.reduceEqDiff, Nat.reduceAdd, Nat.reduceSub, Nat.reduceMul, Int.reduceNeg, Nat.reduceLT, Int.reduceToNat, Nat.reduceLeDiff, Nat.sub_zero, e1, e2])
        exact no (by simp [k1]) _ h8.drop.drop
      by_cases k2 : x.text = y.text
      rotate_left
      · have k2' : (x.text = y.text) = False := eq_false k2
        (try simp (maxSteps := 1000000) (dsimp := false) (disch := (first | omega | (simp only [okR]; done) | (simp only [sizeR] <;> omega) | fail)) only [↓preR, postR, ↓w_stop, Nat.reduceEqDiff, Nat.reduceAdd, Nat.reduceSub, Nat.reduceMul, Int.reduceNeg, Nat.reduceLT, Int.reduceToNat, Nat.reduceLeDiff, Nat.sub_zero, e1, e2, k2'])
        exact no (by simp [k2]) _ h8.drop.drop
      have k2' : (x.text = y.text) = True := eq_true k2
      cases k3 : (x.quote == y.quote) with
      | false =>
        (try simp (maxSteps := 1000000) (dsimp := false) (disch := (first | omega | (simp only [okR]; done) | (simp only [sizeR] <;> omega) | fail)) only [↓preR, postR, ↓w_stop, Nat.reduceEqDiff, Nat.reduceAdd, Nat.reduceSub, Nat.reduceMul, Int.reduceNeg, Nat.reduceLT, Int.reduceToNat, Nat.reduceLeDiff, Nat.sub_zero, e1, e2, k2', k3])
        exact no (by simp [k3]) _ h8.drop.drop
      | true =>
      by_cases k4 : x.op = y.op
      rotate_left
      · (try simp (maxSteps := 1000000) (dsimp := false) (disch := (first | omega | (simp only [okR]; done) | (simp only [sizeR] <;> omega) | fail)) only [↓preR, postR, ↓w_stop, Nat.reduceEqDiff, Nat.reduceAdd, Nat.reduceSub, Nat.reduceMul, Int.reduceNeg, Nat.reduceLT, Int.reduceToNat, Nat.reduceLeDiff, Nat.sub_zero, e1, e2, k2', k3])
        exact no (by simp [k4]) _ h8.drop.drop
      cases k5 : (x.colon == y.colon) with
      | false =>
        (try simp (maxSteps := 1000000) (dsimp := false) (disch := (first | omega | (simp only [okR]; done) | (simp only [sizeR] <;> omega) | fail)) only [↓preR, postR, ↓w_stop, Nat.reduceEqDiff, Nat.reduceAdd, Nat.reduceSub, Nat.reduceMul, Int.reduceNeg, Nat.reduceLT, Int.reduceToNat, Nat.reduceLeDiff, Nat.sub_zero, e1, e2, k2', k3, k5])
        exact no (by simp [k5]) _ h8.drop.drop
      | true =>
      (try simp (maxSteps := 1000000) (dsimp := false) (disch := (first | omega | (simp only [okR]; done) | (simp only [sizeR] <;> omega) | fail)) only [↓preR, postR, ↓w_stop, Nat.reduceEqDiff, Nat.reduceAdd, Nat.reduceSub, Nat.reduceMul, Int.reduceNeg, Nat.reduceLT, Int.reduceToNat, Nat.reduceLeDiff, Nat.sub_zero, e1, e2, k2', k3, k5])
      refine ih (by omega) g1 g1' h8.drop.drop fun s6 h9 => ?_
      rw [decide_eq_true k1, decide_eq_true k2, k3, decide_eq_true k4, k5] at no yes
      simp only [Bool.true_and] at no yes
      cases hw : eqW x.word y.word with
      | true =>
        (try simp (maxSteps := 1000000) (dsimp := false) (disch := (first | omega | (simp only [okR]; done) | (simp only [sizeR] <;> omega) | fail)) only [↓preR, postR, ↓w_stop, Nat.reduceEqDiff, Nat.reduceAdd, Nat.reduceSub, Nat.reduceMul, Int.reduceNeg, Nat.reduceLT, Int.reduceToNat, Nat.reduceLeDiff, Nat.sub_zero])
        exact yes hw _ h9
      | false =>
        (try simp (maxSteps := 1000000) (dsimp := false) (disch := (first | omega | (simp only [okR]; done) | (simp only [sizeR] <;> omega) | fail)) only [↓preR, postR, ↓w_stop, Nat.reduceEqDiff, Nat.reduceAdd, Nat.reduceSub, Nat.reduceMul, Int.reduceNeg, Nat.reduceLT, Int.reduceToNat, Nat.reduceLeDiff, Nat.sub_zero])
        exact no hw _ h9
    · (try simp (maxSteps := 1000000) (dsimp := false) (disch := (first | omega | (simp only [okR]; done) | (simp only [sizeR] <;> omega) | fail)) only [↓preR, postR, ↓w_stop, Nat.reduceEqDiff, Nat.reduceAdd, Nat.reduceSub, Nat.reduceMul, Int.reduceNeg, Nat.reduceLT, Int.reduceToNat, Nat.reduceLeDiff, Nat.sub_zero])
      have e0 : l.drop j = [] := List.drop_of_length_le (by omega)
      have e1 : m.drop j = [] := List.drop_of_length_le (by omega)
      rw [e0, e1] at he
      have he : true = eqW l m := by simpa [eqW] using he
      rw [← he] at hk
      exact hk _ h1
end
end Go.Proofs.YtmgdkoidgoihfaaGreatDoor
