/- Words: whether two are the same. Conditions: as each theorem says. -/
import Derived.Test.YtmgdkoidgoihfaaGreatDoorWdB
import Derived.Test.YtmgdkoidgoihfaaGreatDoorWdA
import Derived.Test.YtmgdkoidgoihfaaGreatDoorC
import Derived.Test.YtmgdkoidgoihfaaGreatDoorWdG
import Derived.Test.YtmgdkoidgoihfaaGreatDoorBd
namespace Go.Proofs.YtmgdkoidgoihfaaGreatDoor
open E Go.Lib
open Go.RowKit
set_option linter.unusedVariables false
set_option linter.unusedSimpArgs false
set_option maxHeartbeats 1000000
set_option maxRecDepth 20000

mutual
def eqPt : Pt → Pt → Bool
  | .mk k t q o c w, .mk k' t' q' o' c' w' => decide (k = k') && (decide (t = t') && ((q == q') && (decide (o = o') && ((c == c') && eqW w w'))))
def eqW : List Pt → List Pt → Bool
  | [], [] => true
  | p :: l, q :: m => eqPt p q && eqW l m
  | [], _ :: _ => false
  | _ :: _, [] => false
end
mutual
theorem eqPt_iff : ∀ (p q : Pt), eqPt p q = true ↔ p = q
  | .mk k t q o c w, .mk k' t' q' o' c' w' => by
    have := eqW_iff w w'
    simp only [eqPt, Bool.and_eq_true, decide_eq_true_eq, beq_iff_eq, this, Pt.mk.injEq]
theorem eqW_iff : ∀ (l m : List Pt), eqW l m = true ↔ l = m
  | [], [] => by simp [eqW]
  | p :: l, q :: m => by
    have h1 := eqPt_iff p q
    have h2 := eqW_iff l m
    simp only [eqW, Bool.and_eq_true, h1, h2, List.cons.injEq]
  | [], _ :: _ => by simp [eqW]
  | _ :: _, [] => by simp [eqW]
end
theorem eqW_refl (l : List Pt) : eqW l l = true := (eqW_iff l l).2 rfl
theorem eqW_len {l m : List Pt} (h : ¬ l.length = m.length) : eqW l m = false := by
  cases he : eqW l m with
  | false => rfl
  | true => exact (h (by rw [(eqW_iff l m).1 he])).elim
theorem eqPt_def (p q : Pt) : eqPt p q = (decide (p.kind = q.kind) && (decide (p.text = q.text) && ((p.quote == q.quote) && (decide (p.op = q.op) && ((p.colon == q.colon) && eqW p.word q.word))))) := by
  cases p; cases q; rw [eqPt]; rfl
theorem szPt_word (p : Pt) : szW p.word < szPt p := by
  cases p with
  | mk k t q o c w => unfold szPt; show szW w < _; omega
section
variable {σ σ' : AS} {X : Ce} {R : List Ck} {k : Value → AS → Prop} {n i f : Nat} {l m : List Pt} {u v : Value}
theorem same_c : ∀ (n : Nat) {σ : AS} {X : Ce} {R : List Ck} {k : Value → AS → Prop} {l m : List Pt} {v u : Value}, szW l < n → RepL X v l → RepL X u m → Hs σ X R → (∀ σ', Hs σ' X R → k (.bool (eqW l m)) σ') → kCall Tryz.prog 34 [v, u] σ k := by
  intro n
  induction n with
  | zero => intro σ X R k l m v u hn; omega
  | succ n ih =>
    intro σ X R k l m v u hn hv hu h hk
    obtain ⟨a, b, o, cap, rfl, hc, hm, hat⟩ := pts_at hv
    obtain ⟨a', b', o', cap', rfl, hc', hm', hat'⟩ := pts_at hu
    unfold maxLen at hm hm'
    refine f34 ?_
    (try simp (maxSteps := 1000000) (dsimp := false) (disch := (first | omega | (simp only [okR]; done) | (simp only [sizeR] <;> omega) | fail)) only [↓preR, postR, ↓w_stop, Nat.reduceEqDiff, Nat.reduceAdd, Nat.reduceSub, Nat.reduceMul, Int.reduceNeg, Nat.reduceLT, Int.reduceToNat, Nat.reduceLeDiff, Nat.sub_zero, F34])
    refine f57 ?_
    (try simp (maxSteps := 1000000) (dsimp := false) (disch := (first | omega | (simp only [okR]; done) | (simp only [sizeR] <;> omega) | fail)) only [↓preR, postR, ↓w_stop, Nat.reduceEqDiff, Nat.reduceAdd, Nat.reduceSub, Nat.reduceMul, Int.reduceNeg, Nat.reduceLT, Int.reduceToNat, Nat.reduceLeDiff, Nat.sub_zero, F57])
    refine join_now ?_
    by_cases hl : l.length = m.length
    rotate_left
    · rw [eqW_len hl] at hk
      (try simp (maxSteps := 1000000) (dsimp := false) (disch := (first | omega | (simp only [okR]; done) | (simp only [sizeR] <;> omega) | fail)) only [↓preR, postR, ↓w_stop, Nat.reduceEqDiff, Nat.reduceAdd, Nat.reduceSub, Nat.reduceMul, Int.reduceNeg, Nat.reduceLT, Int.reduceToNat, Nat.reduceLeDiff, Nat.sub_zero])
      exact hk _ h
    (try simp (maxSteps := 1000000) (dsimp := false) (disch := (first | omega | (simp only [okR]; done) | (simp only [sizeR] <;> omega) | fail)) only [↓preR, postR, ↓w_stop, Nat.reduceEqDiff, Nat.reduceAdd, Nat.reduceSub, Nat.reduceMul, Int.reduceNeg, Nat.reduceLT, Int.reduceToNat, Nat.reduceLeDiff, Nat.sub_zero])
    refine join_now ?_
    (try simp (maxSteps := 1000000) (dsimp := false) (disch := (first | omega | (simp only [okR]; done) | (simp only [sizeR] <;> omega) | fail)) only [↓preR, postR, ↓w_stop, Nat.reduceEqDiff, Nat.reduceAdd, Nat.reduceSub, Nat.reduceMul, Int.reduceNeg, Nat.reduceLT, Int.reduceToNat, Nat.reduceLeDiff, Nat.sub_zero])
    refine loop_inv (fun nn xs s1 => ∃ j : Nat, xs = [.int .i64 j] ∧ j ≤ l.length ∧ Hs s1 X R ∧ eqW (l.drop j) (m.drop j) = eqW l m ∧ nn = l.length - j) _ ⟨0, rfl, Nat.zero_le _, h, rfl, rfl⟩ ?_
    rintro _ _ s1 again ⟨j, rfl, hj, h1, he, rfl⟩ hag
    (try simp (maxSteps := 1000000) (dsimp := false) (disch := (first | omega | (simp only [okR]; done) | (simp only [sizeR] <;> omega) | fail)) only [↓preR, postR, ↓w_stop, Nat.reduceEqDiff, Nat.reduceAdd, Nat.reduceSub, Nat.reduceMul, Int.reduceNeg, Nat.reduceLT, Int.reduceToNat, Nat.reduceLeDiff, Nat.sub_zero])
    refine join_now ?_
    by_cases hlt : j < l.length
    · have hlt' : j < m.length := by omega
      rw [List.drop_eq_getElem_cons hlt, List.drop_eq_getElem_cons hlt'] at he
      simp only [eqW] at he
      obtain ⟨rfl, w, g0, g1, g2, g3, g4, c0, c1, c2, c3, c4, c5⟩ := hat j hlt
      obtain ⟨rfl, w', g0', g1', g2', g3', g4', c0', c1', c2', c3', c4', c5'⟩ := hat' j hlt'
      have hszl := sz_get l j hlt
      generalize l[j] = x at *
      generalize m[j] = y at *
      have hszx := szPt_word x
      obtain ⟨va, vn, vc, rfl⟩ := g0.val
      obtain ⟨va', vn', vc', rfl⟩ := g0'.val
      (try simp (maxSteps := 1000000) (dsimp := false) (disch := (first | omega | (simp only [okR]; done) | (simp only [sizeR] <;> omega) | fail)) only [↓preR, postR, ↓w_stop, Nat.reduceEqDiff, Nat.reduceAdd, Nat.reduceSub, Nat.reduceMul, Int.reduceNeg, Nat.reduceLT, Int.reduceToNat, Nat.reduceLeDiff, Nat.sub_zero])
      refine join_now ?_
      have d0 := h1.ldx c0
      have d1 := h1.ldx c1
      have d2 := h1.ldx c2
      have d3 := h1.ldx c3
      have d4 := h1.ldx c4
      have d5 := h1.ldx c5
      have h2 := h1.new (cs := [.int .i64 0, .string (bs []), .bool false, .int .i64 0, .bool false, .slice none 0 0])
      have h3 := h2.put (cs' := ptC x (.slice va vn vc))
      have f0 := h3.ldx c0'
      have f1 := h3.ldx c1'
      have f2 := h3.ldx c2'
      have f3 := h3.ldx c3'
      have f4 := h3.ldx c4'
      have f5 := h3.ldx c5'
      (try simp (maxSteps := 1000000) (dsimp := false) (disch := (first | omega | (simp only [okR]; done) | (simp only [sizeR] <;> omega) | fail)) only [↓preR, postR, ↓w_stop, Nat.reduceEqDiff, Nat.reduceAdd, Nat.reduceSub, Nat.reduceMul, Int.reduceNeg, Nat.reduceLT, Int.reduceToNat, Nat.reduceLeDiff, Nat.sub_zero, d0, d1, d2, d3, d4, d5, h2.obj])
      generalize hb : s1.n = q1 at h3 f0 f1 f2 f3 f4 f5 ⊢
      generalize hs3 : AS.put _ q1 _ = s3 at h3 f0 f1 f2 f3 f4 f5 ⊢
      rw [show s1.c = s3.c from by rw [← hs3]; rfl] 
      have h4 := h3.new (cs := [.int .i64 0, .string (bs []), .bool false, .int .i64 0, .bool false, .slice none 0 0])
      have h5 := h4.put (cs' := ptC y (.slice va' vn' vc'))
      (try simp (maxSteps := 1000000) (dsimp := false) (disch := (first | omega | (simp only [okR]; done) | (simp only [sizeR] <;> omega) | fail)) only [↓preR, postR, ↓w_stop, Nat.reduceEqDiff, Nat.reduceAdd, Nat.reduceSub, Nat.reduceMul, Int.reduceNeg, Nat.reduceLT, Int.reduceToNat, Nat.reduceLeDiff, Nat.sub_zero, f0, f1, f2, f3, f4, f5, h4.obj, h5.obj, h5.obj1])
      generalize AS.put _ s3.n _ = s5 at h5 ⊢
      have h6 := h5.drop.drop
      clear h5 h4 h3 hs3 f0 f1 f2 f3 f4 f5 d0 d1 d2 d3 d4 d5 h2
      refine ⟨k58_ok, ?_⟩
      refine f58 ?_
      have h7 := h6.new (cs := ptC x (.slice va vn vc))
      have h8 := h7.new (cs := ptC y (.slice va' vn' vc'))
      have e1 := h8.obj
      have e2 := h8.obj1
      (try simp (maxSteps := 1000000) (dsimp := false) (disch := (first | omega | (simp only [okR]; done) | (simp only [sizeR] <;> omega) | fail)) only [↓preR, postR, ↓w_stop, Nat.reduceEqDiff, Nat.reduceAdd, Nat.reduceSub, Nat.reduceMul, Int.reduceNeg, Nat.reduceLT, Int.reduceToNat, Nat.reduceLeDiff, Nat.sub_zero, F58, e1, e2])
      have no : eqPt x y = false → ∀ s6, Hs s6 X R → k (.bool false) s6 := by
        intro hbb s6 h9
        rw [hbb, Bool.false_and] at he
        rw [← he] at hk
        exact hk _ h9
      have yes : eqPt x y = true → ∀ s6, Hs s6 X R → again [.int .i64 ((j : Int) + 1)] s6 := by
        intro hbb s6 h9
        rw [hbb, Bool.true_and] at he
        exact hag _ _ _ ⟨j + 1, rfl, hlt, h9, he, rfl⟩ (by omega)
      rw [eqPt_def] at no yes
      by_cases k1 : x.kind = y.kind
      rotate_left
      · (try simp (maxSteps := 1000000) (dsimp := false) (disch := (first | omega | (simp only [okR]; done) | (simp only [sizeR] <;> omega) | fail)) only [↓preR, postR, ↓w_stop, Nat.reduceEqDiff, Nat.reduceAdd, Nat.reduceSub, Nat.reduceMul, Int.reduceNeg, Nat.reduceLT, Int.reduceToNat, Nat.reduceLeDiff, Nat.sub_zero, e1, e2])
        exact no (by simp [k1]) _ h8.drop.drop
      by_cases k2 : x.text = y.text
      rotate_left
      · have k2' : (x.text = y.text) = False := eq_false k2
        (try simp (maxSteps := 1000000) (dsimp := false) (disch := (first | omega | (simp only [okR]; done) | (simp only [sizeR] <;> omega) | fail)) only [↓preR, postR, ↓w_stop, Nat.reduceEqDiff, Nat.reduceAdd, Nat.reduceSub, Nat.reduceMul, Int.reduceNeg, Nat.reduceLT, Int.reduceToNat, Nat.reduceLeDiff, Nat.sub_zero, e1, e2, k2'])
        exact no (by simp [k2]) _ h8.drop.drop
      have k2' : (x.text = y.text) = True := eq_true k2
      cases k3 : (x.quote == y.quote) with
      | false =>
        (try simp (maxSteps := 1000000) (dsimp := false) (disch := (first | omega | (simp only [okR]; done) | (simp only [sizeR] <;> omega) | fail)) only [↓preR, postR, ↓w_stop, Nat.reduceEqDiff, Nat.reduceAdd, Nat.reduceSub, Nat.reduceMul, Int.reduceNeg, Nat.reduceLT, Int.reduceToNat, Nat.reduceLeDiff, Nat.sub_zero, e1, e2, k2', k3])
        exact no (by simp [k3]) _ h8.drop.drop
      | true =>
      by_cases k4 : x.op = y.op
      rotate_left
      · (try simp (maxSteps := 1000000) (dsimp := false) (disch := (first | omega | (simp only [okR]; done) | (simp only [sizeR] <;> omega) | fail)) only [↓preR, postR, ↓w_stop, Nat.reduceEqDiff, Nat.reduceAdd, Nat.reduceSub, Nat.reduceMul, Int.reduceNeg, Nat.reduceLT, Int.reduceToNat, Nat.reduceLeDiff, Nat.sub_zero, e1, e2, k2', k3])
        exact no (by simp [k4]) _ h8.drop.drop
      cases k5 : (x.colon == y.colon) with
      | false =>
        (try simp (maxSteps := 1000000) (dsimp := false) (disch := (first | omega | (simp only [okR]; done) | (simp only [sizeR] <;> omega) | fail)) only [↓preR, postR, ↓w_stop, Nat.reduceEqDiff, Nat.reduceAdd, Nat.reduceSub, Nat.reduceMul, Int.reduceNeg, Nat.reduceLT, Int.reduceToNat, Nat.reduceLeDiff, Nat.sub_zero, e1, e2, k2', k3, k5])
        exact no (by simp [k5]) _ h8.drop.drop
      | true =>
      (try simp (maxSteps := 1000000) (dsimp := false) (disch := (first | omega | (simp only [okR]; done) | (simp only [sizeR] <;> omega) | fail)) only [↓preR, postR, ↓w_stop, Nat.reduceEqDiff, Nat.reduceAdd, Nat.reduceSub, Nat.reduceMul, Int.reduceNeg, Nat.reduceLT, Int.reduceToNat, Nat.reduceLeDiff, Nat.sub_zero, e1, e2, k2', k3, k5])
      refine ih (by omega) g1 g1' h8.drop.drop fun s6 h9 => ?_
      rw [decide_eq_true k1, decide_eq_true k2, k3, decide_eq_true k4, k5] at no yes
      simp only [Bool.true_and] at no yes
      cases hw : eqW x.word y.word with
      | true =>
        (try simp (maxSteps := 1000000) (dsimp := false) (disch := (first | omega | (simp only [okR]; done) | (simp only [sizeR] <;> omega) | fail)) only [↓preR, postR, ↓w_stop, Nat.reduceEqDiff, Nat.reduceAdd, Nat.reduceSub, Nat.reduceMul, Int.reduceNeg, Nat.reduceLT, Int.reduceToNat, Nat.reduceLeDiff, Nat.sub_zero])
        exact yes hw _ h9
      | false =>
        (try simp (maxSteps := 1000000) (dsimp := false) (disch := (first | omega | (simp only [okR]; done) | (simp only [sizeR] <;> omega) | fail)) only [↓preR, postR, ↓w_stop, Nat.reduceEqDiff, Nat.reduceAdd, Nat.reduceSub, Nat.reduceMul, Int.reduceNeg, Nat.reduceLT, Int.reduceToNat, Nat.reduceLeDiff, Nat.sub_zero])
        exact no hw _ h9
    · (try simp (maxSteps := 1000000) (dsimp := false) (disch := (first | omega | (simp only [okR]; done) | (simp only [sizeR] <;> omega) | fail)) only [↓preR, postR, ↓w_stop, Nat.reduceEqDiff, Nat.reduceAdd, Nat.reduceSub, Nat.reduceMul, Int.reduceNeg, Nat.reduceLT, Int.reduceToNat, Nat.reduceLeDiff, Nat.sub_zero])
      have e0 : l.drop j = [] := List.drop_of_length_le (by omega)
      have e1 : m.drop j = [] := List.drop_of_length_le (by omega)
      rw [e0, e1] at he
      have he : true = eqW l m := by simpa [eqW] using he
      rw [← he] at hk
      exact hk _ h1
end
end Go.Proofs.YtmgdkoidgoihfaaGreatDoor

/- Words: how one is written. Conditions: as each theorem says. -/
namespace Go.Proofs.YtmgdkoidgoihfaaGreatDoor
open E Go.Lib
open Go.RowKit
set_option linter.unusedVariables false
set_option linter.unusedSimpArgs false
set_option maxHeartbeats 1000000
set_option maxRecDepth 20000

theorem esc_cons (set : Str) (c : UInt8) (s : Str) : escP set (c :: s) = if set.contains c = true then 92 :: c :: escP set s else c :: escP set s := rfl
/-- A text in single quotes, as the program makes it. -/
def QuoteC (X : Ce) : Prop := ∀ {σ : AS} {R : List Ck} {k : Value → AS → Prop} {s : Str}, s.length ≤ 100000 → Hs σ X R → (∀ σ', Hs σ' X R → k (.string (bs (quoteP s))) σ') → kCall Tryz.prog 94 [.string (bs s)] σ k
def stF (way : Nat) : Nat := if way = 3 then 90 else if way = 4 then 92 else if way = 5 then 93 else 94
section
variable {σ σ' : AS} {X : Ce} {R : List Ck} {k : Value → AS → Prop} {p n i f : Nat} {s t set : Str} {c : UInt8} {way : Nat} {q : Bool}
theorem escaped_c (hs : s.length ≤ 1000000) (h : Hs σ X R) (hk : ∀ σ', Hs σ' X R → k (.string (bs (escP set s))) σ') : kCall Tryz.prog 91 [.string (bs s), .string (bs set)] σ k := by
  refine f91 ?_
  have h1 := Bd.new h
  (try simp (maxSteps := 1000000) (dsimp := false) (disch := (first | omega | (simp only [okR]; done) | (simp only [sizeR] <;> omega) | fail)) only [↓preR, postR, ↓w_stop, Nat.reduceEqDiff, Nat.reduceAdd, Nat.reduceSub, Nat.reduceMul, Int.reduceNeg, Nat.reduceLT, Int.reduceToNat, Nat.reduceLeDiff, Nat.sub_zero, F91])
  generalize AS.new σ _ = s1 at h1 ⊢
  generalize σ.n = p at h1 ⊢
  refine join_by fun J1 hJ1 => ?_
  have tail : ∀ s2, Hs s2 X (Bd p (escP set s) :: R) → J1 [] s2 := by
    intro s2 h2
    have := esc_len set s
    refine hJ1 _ _ ?_
    (try simp (maxSteps := 1000000) (dsimp := false) (disch := (first | omega | (simp only [okR]; done) | (simp only [sizeR] <;> omega) | fail)) only [↓preR, postR, ↓w_stop, Nat.reduceEqDiff, Nat.reduceAdd, Nat.reduceSub, Nat.reduceMul, Int.reduceNeg, Nat.reduceLT, Int.reduceToNat, Nat.reduceLeDiff, Nat.sub_zero])
    refine bstr_c h2 (by omega) fun s3 h3 => ?_
    (try simp (maxSteps := 1000000) (dsimp := false) (disch := (first | omega | (simp only [okR]; done) | (simp only [sizeR] <;> omega) | fail)) only [↓preR, postR, ↓w_stop, Nat.reduceEqDiff, Nat.reduceAdd, Nat.reduceSub, Nat.reduceMul, Int.reduceNeg, Nat.reduceLT, Int.reduceToNat, Nat.reduceLeDiff, Nat.sub_zero])
    exact hk _ h3
  clear hJ1
  (try simp (maxSteps := 1000000) (dsimp := false) (disch := (first | omega | (simp only [okR]; done) | (simp only [sizeR] <;> omega) | fail)) only [↓preR, postR, ↓w_stop, Nat.reduceEqDiff, Nat.reduceAdd, Nat.reduceSub, Nat.reduceMul, Int.reduceNeg, Nat.reduceLT, Int.reduceToNat, Nat.reduceLeDiff, Nat.sub_zero])
  refine loop_inv (fun nn xs s2 => ∃ (j : Nat) (t : Str), xs = [.int .i64 j] ∧ j ≤ s.length ∧ Hs s2 X (Bd p t :: R) ∧ t ++ escP set (s.drop j) = escP set s ∧ t.length ≤ 2 * j ∧ nn = s.length - j) _ ⟨0, [], rfl, Nat.zero_le _, h1, rfl, Nat.le_refl _, rfl⟩ ?_
  rintro _ _ s2 again ⟨j, t, rfl, hj, h2, he, htl, rfl⟩ hag
  (try simp (maxSteps := 1000000) (dsimp := false) (disch := (first | omega | (simp only [okR]; done) | (simp only [sizeR] <;> omega) | fail)) only [↓preR, postR, ↓w_stop, Nat.reduceEqDiff, Nat.reduceAdd, Nat.reduceSub, Nat.reduceMul, Int.reduceNeg, Nat.reduceLT, Int.reduceToNat, Nat.reduceLeDiff, Nat.sub_zero])
  refine join_now ?_
  by_cases hlt : j < s.length
  · have hgd : (s[j]?.getD 0) = s[j] := by simp [hlt]
    rw [drop_c hlt, esc_cons] at he
    (try simp (maxSteps := 1000000) (dsimp := false) (disch := (first | omega | (simp only [okR]; done) | (simp only [sizeR] <;> omega) | fail)) only [↓preR, postR, ↓w_stop, Nat.reduceEqDiff, Nat.reduceAdd, Nat.reduceSub, Nat.reduceMul, Int.reduceNeg, Nat.reduceLT, Int.reduceToNat, Nat.reduceLeDiff, Nat.sub_zero])
    refine join_now ?_
    (try simp (maxSteps := 1000000) (dsimp := false) (disch := (first | omega | (simp only [okR]; done) | (simp only [sizeR] <;> omega) | fail)) only [↓preR, postR, ↓w_stop, Nat.reduceEqDiff, Nat.reduceAdd, Nat.reduceSub, Nat.reduceMul, Int.reduceNeg, Nat.reduceLT, Int.reduceToNat, Nat.reduceLeDiff, Nat.sub_zero, hgd])
    refine join_by fun J5 hJ5 => ?_
    have tail5 : ∀ t' s3, Hs s3 X (Bd p t' :: R) → t' ++ (s[j] :: escP set (s.drop (j + 1))) = escP set s → t'.length ≤ 2 * j + 1 → J5 [] s3 := by
      intro t' s3 h3 he' hl'
      refine hJ5 _ _ ?_
      (try simp (maxSteps := 1000000) (dsimp := false) (disch := (first | omega | (simp only [okR]; done) | (simp only [sizeR] <;> omega) | fail)) only [↓preR, postR, ↓w_stop, Nat.reduceEqDiff, Nat.reduceAdd, Nat.reduceSub, Nat.reduceMul, Int.reduceNeg, Nat.reduceLT, Int.reduceToNat, Nat.reduceLeDiff, Nat.sub_zero, hgd])
      refine wrb_c rfl h3 (by omega) fun v s4 h4 => ?_
      (try simp (maxSteps := 1000000) (dsimp := false) (disch := (first | omega | (simp only [okR]; done) | (simp only [sizeR] <;> omega) | fail)) only [↓preR, postR, ↓w_stop, Nat.reduceEqDiff, Nat.reduceAdd, Nat.reduceSub, Nat.reduceMul, Int.reduceNeg, Nat.reduceLT, Int.reduceToNat, Nat.reduceLeDiff, Nat.sub_zero])
      exact hag _ _ _ ⟨j + 1, t' ++ [s[j]], rfl, hlt, h4, by rw [← he']; simp, by rw [List.length_append]; simp; omega, rfl⟩ (by omega)
    clear hJ5
    (try simp (maxSteps := 1000000) (dsimp := false) (disch := (first | omega | (simp only [okR]; done) | (simp only [sizeR] <;> omega) | fail)) only [↓preR, postR, ↓w_stop, Nat.reduceEqDiff, Nat.reduceAdd, Nat.reduceSub, Nat.reduceMul, Int.reduceNeg, Nat.reduceLT, Int.reduceToNat, Nat.reduceLeDiff, Nat.sub_zero, hgd])
    refine idx_c rfl ?_
    have hps := posB_has s[j] set
    cases hpo : posB s[j] set with
    | none =>
      rw [hpo] at hps
      rw [← hps] at he
      simp only [Option.isSome_none, Bool.false_eq_true, if_false] at he
      (try simp (maxSteps := 1000000) (dsimp := false) (disch := (first | omega | (simp only [okR]; done) | (simp only [sizeR] <;> omega) | fail)) only [↓preR, postR, ↓w_stop, Nat.reduceEqDiff, Nat.reduceAdd, Nat.reduceSub, Nat.reduceMul, Int.reduceNeg, Nat.reduceLT, Int.reduceToNat, Nat.reduceLeDiff, Nat.sub_zero])
      exact tail5 t s2 h2 he (by omega)
    | some m =>
      rw [hpo] at hps
      rw [← hps] at he
      simp only [Option.isSome_some, if_true] at he
      (try simp (maxSteps := 1000000) (dsimp := false) (disch := (first | omega | (simp only [okR]; done) | (simp only [sizeR] <;> omega) | fail)) only [↓preR, postR, ↓w_stop, Nat.reduceEqDiff, Nat.reduceAdd, Nat.reduceSub, Nat.reduceMul, Int.reduceNeg, Nat.reduceLT, Int.reduceToNat, Nat.reduceLeDiff, Nat.sub_zero])
      refine wrb_c (c := 92) rfl h2 (by omega) fun v s3 h3 => ?_
      (try simp (maxSteps := 1000000) (dsimp := false) (disch := (first | omega | (simp only [okR]; done) | (simp only [sizeR] <;> omega) | fail)) only [↓preR, postR, ↓w_stop, Nat.reduceEqDiff, Nat.reduceAdd, Nat.reduceSub, Nat.reduceMul, Int.reduceNeg, Nat.reduceLT, Int.reduceToNat, Nat.reduceLeDiff, Nat.sub_zero])
      exact tail5 (t ++ [92]) s3 h3 (by rw [← he]; simp) (by rw [List.length_append]; simp; omega)
  · rw [List.drop_of_length_le (by omega)] at he
    simp only [escP, List.append_nil] at he
    (try simp (maxSteps := 1000000) (dsimp := false) (disch := (first | omega | (simp only [okR]; done) | (simp only [sizeR] <;> omega) | fail)) only [↓preR, postR, ↓w_stop, Nat.reduceEqDiff, Nat.reduceAdd, Nat.reduceSub, Nat.reduceMul, Int.reduceNeg, Nat.reduceLT, Int.reduceToNat, Nat.reduceLeDiff, Nat.sub_zero])
    rw [he] at h2
    exact tail s2 h2
theorem style_c (hw : way ≤ 5) (h : Hs σ X R) (hk : ∀ σ', Hs σ' X R → k (.agg #[.func (.func (stF way)) #[] #[], .bool (quoteB way), .bool (underB way)]) σ') : kCall Tryz.prog 76 [.int .i64 way] σ k := by
  refine f76 ?_
  have h1 := h.new (cs := [.nilFunc, .bool false, .bool false])
  have h2 := h1.put (cs' := [.func (.func (stF way)) #[] #[], .bool (quoteB way), .bool (underB way)])
  (try simp (maxSteps := 1000000) (dsimp := false) (disch := (first | omega | (simp only [okR]; done) | (simp only [sizeR] <;> omega) | fail)) only [↓preR, postR, ↓w_stop, Nat.reduceEqDiff, Nat.reduceAdd, Nat.reduceSub, Nat.reduceMul, Int.reduceNeg, Nat.reduceLT, Int.reduceToNat, Nat.reduceLeDiff, Nat.sub_zero, F76])
  refine join_now ?_
  have : way = 0 ∨ way = 1 ∨ way = 2 ∨ way = 3 ∨ way = 4 ∨ way = 5 := by omega
  rcases this with rfl | rfl | rfl | rfl | rfl | rfl
  all_goals
    (try simp (maxSteps := 1000000) (dsimp := false) (disch := (first | omega | (simp only [okR]; done) | (simp only [sizeR] <;> omega) | fail)) only [↓preR, postR, ↓w_stop, Nat.reduceEqDiff, Nat.reduceAdd, Nat.reduceSub, Nat.reduceMul, Int.reduceNeg, Nat.reduceLT, Int.reduceToNat, Nat.reduceLeDiff, Nat.sub_zero, h1.obj])
    exact hk _ h2.drop
/-- A quoted Lit. -/
theorem lits_c (hw : way ≤ 5) (hs : t.length ≤ 100000) (hQ : QuoteC X) (h : Hs σ X R) (hk : ∀ σ', Hs σ' X R → k (.string (bs (litW t way))) σ') : kCallv Tryz.prog (.func (.func (stF way)) #[] #[]) [.string (bs t)] σ k := by
  unfold stF
  unfold litW at hk
  by_cases h3 : way = 3
  · rw [if_pos h3]
    rw [if_pos h3] at hk
    refine ⟨k90_ok, ?_⟩
    refine f90 ?_
    (try simp (maxSteps := 1000000) (dsimp := false) (disch := (first | omega | (simp only [okR]; done) | (simp only [sizeR] <;> omega) | fail)) only [↓preR, postR, ↓w_stop, Nat.reduceEqDiff, Nat.reduceAdd, Nat.reduceSub, Nat.reduceMul, Int.reduceNeg, Nat.reduceLT, Int.reduceToNat, Nat.reduceLeDiff, Nat.sub_zero, F90])
    refine join_now ?_
    by_cases h0 : t = []
    · have hT : (t = []) = True := eq_true h0
      rw [if_pos h0] at hk
      (try simp (maxSteps := 1000000) (dsimp := false) (disch := (first | omega | (simp only [okR]; done) | (simp only [sizeR] <;> omega) | fail)) only [↓preR, postR, ↓w_stop, Nat.reduceEqDiff, Nat.reduceAdd, Nat.reduceSub, Nat.reduceMul, Int.reduceNeg, Nat.reduceLT, Int.reduceToNat, Nat.reduceLeDiff, Nat.sub_zero, hT])
      exact hk _ h
    · have hF : (t = []) = False := eq_false h0
      rw [if_neg h0] at hk
      (try simp (maxSteps := 1000000) (dsimp := false) (disch := (first | omega | (simp only [okR]; done) | (simp only [sizeR] <;> omega) | fail)) only [↓preR, postR, ↓w_stop, Nat.reduceEqDiff, Nat.reduceAdd, Nat.reduceSub, Nat.reduceMul, Int.reduceNeg, Nat.reduceLT, Int.reduceToNat, Nat.reduceLeDiff, Nat.sub_zero, hF])
      refine escaped_c (by omega) h fun s1 h1 => ?_
      (try simp (maxSteps := 1000000) (dsimp := false) (disch := (first | omega | (simp only [okR]; done) | (simp only [sizeR] <;> omega) | fail)) only [↓preR, postR, ↓w_stop, Nat.reduceEqDiff, Nat.reduceAdd, Nat.reduceSub, Nat.reduceMul, Int.reduceNeg, Nat.reduceLT, Int.reduceToNat, Nat.reduceLeDiff, Nat.sub_zero])
      exact hk _ h1
  rw [if_neg h3]
  rw [if_neg h3] at hk
  by_cases h4 : way = 4
  · rw [if_pos h4]
    rw [if_pos h4] at hk
    refine ⟨k92_ok, ?_⟩
    refine f92 ?_
    (try simp (maxSteps := 1000000) (dsimp := false) (disch := (first | omega | (simp only [okR]; done) | (simp only [sizeR] <;> omega) | fail)) only [↓preR, postR, ↓w_stop, Nat.reduceEqDiff, Nat.reduceAdd, Nat.reduceSub, Nat.reduceMul, Int.reduceNeg, Nat.reduceLT, Int.reduceToNat, Nat.reduceLeDiff, Nat.sub_zero, F92])
    refine escaped_c (by omega) h fun s1 h1 => ?_
    have := esc_len [36, 34, 92, 96] t
    (try simp (maxSteps := 1000000) (dsimp := false) (disch := (first | omega | (simp only [okR]; done) | (simp only [sizeR] <;> omega) | fail)) only [↓preR, postR, ↓w_stop, Nat.reduceEqDiff, Nat.reduceAdd, Nat.reduceSub, Nat.reduceMul, Int.reduceNeg, Nat.reduceLT, Int.reduceToNat, Nat.reduceLeDiff, Nat.sub_zero])
    exact hk _ h1
  rw [if_neg h4]
  rw [if_neg h4] at hk
  by_cases h5 : way = 5
  · rw [if_pos h5]
    rw [if_pos h5] at hk
    refine ⟨k93_ok, ?_⟩
    refine f93 ?_
    (try simp (maxSteps := 1000000) (dsimp := false) (disch := (first | omega | (simp only [okR]; done) | (simp only [sizeR] <;> omega) | fail)) only [↓preR, postR, ↓w_stop, Nat.reduceEqDiff, Nat.reduceAdd, Nat.reduceSub, Nat.reduceMul, Int.reduceNeg, Nat.reduceLT, Int.reduceToNat, Nat.reduceLeDiff, Nat.sub_zero, F93])
    refine escaped_c (by omega) h fun s1 h1 => ?_
    (try simp (maxSteps := 1000000) (dsimp := false) (disch := (first | omega | (simp only [okR]; done) | (simp only [sizeR] <;> omega) | fail)) only [↓preR, postR, ↓w_stop, Nat.reduceEqDiff, Nat.reduceAdd, Nat.reduceSub, Nat.reduceMul, Int.reduceNeg, Nat.reduceLT, Int.reduceToNat, Nat.reduceLeDiff, Nat.sub_zero])
    exact hk _ h1
  rw [if_neg h5]
  rw [if_neg h5] at hk
  refine ⟨k94_ok, ?_⟩
  exact hQ hs h hk
theorem index_c {kb : Nat} {op : Int} (h : Hs σ X (Cel kb (ops8.map fun o => .int .i64 o.2) :: R))
    (hk1 : ∀ (j : Nat) (hj : j < ops8.length), (ops8[j]).2 = op → k (.int .i64 j) σ) (hk0 : (∀ (j : Nat) (hj : j < ops8.length), ¬ (ops8[j]).2 = op) → k (.int .i64 (-1)) σ) :
    kCall Tryz.prog 77 [.slice (some ⟨kb, 0, none⟩) 8 8, .int .i64 op] σ k := by
  refine f77 ?_
  (try simp (maxSteps := 1000000) (dsimp := false) (disch := (first | omega | (simp only [okR]; done) | (simp only [sizeR] <;> omega) | fail)) only [↓preR, postR, ↓w_stop, Nat.reduceEqDiff, Nat.reduceAdd, Nat.reduceSub, Nat.reduceMul, Int.reduceNeg, Nat.reduceLT, Int.reduceToNat, Nat.reduceLeDiff, Nat.sub_zero, F77])
  refine join_now ?_
  (try simp (maxSteps := 1000000) (dsimp := false) (disch := (first | omega | (simp only [okR]; done) | (simp only [sizeR] <;> omega) | fail)) only [↓preR, postR, ↓w_stop, Nat.reduceEqDiff, Nat.reduceAdd, Nat.reduceSub, Nat.reduceMul, Int.reduceNeg, Nat.reduceLT, Int.reduceToNat, Nat.reduceLeDiff, Nat.sub_zero])
  refine loop_inv (fun nn xs s2 => ∃ j : Nat, xs = [.int .i64 j] ∧ σ = s2 ∧ j ≤ 8 ∧ (∀ (i : Nat) (hi : i < ops8.length), i < j → ¬ (ops8[i]).2 = op) ∧ nn = 8 - j) _ ⟨0, rfl, rfl, by omega, fun i _ hi => by omega, rfl⟩ ?_
  rintro _ _ s2 again ⟨j, rfl, rfl, hj, hno, rfl⟩ hag
  (try simp (maxSteps := 1000000) (dsimp := false) (disch := (first | omega | (simp only [okR]; done) | (simp only [sizeR] <;> omega) | fail)) only [↓preR, postR, ↓w_stop, Nat.reduceEqDiff, Nat.reduceAdd, Nat.reduceSub, Nat.reduceMul, Int.reduceNeg, Nat.reduceLT, Int.reduceToNat, Nat.reduceLeDiff, Nat.sub_zero])
  refine join_now ?_
  by_cases hlt : j < 8
  · have hj8 : j < ops8.length := hlt
    have go2 := (ops_get hj8).2
    (try simp (maxSteps := 1000000) (dsimp := false) (disch := (first | omega | (simp only [okR]; done) | (simp only [sizeR] <;> omega) | fail)) only [↓preR, postR, ↓w_stop, Nat.reduceEqDiff, Nat.reduceAdd, Nat.reduceSub, Nat.reduceMul, Int.reduceNeg, Nat.reduceLT, Int.reduceToNat, Nat.reduceLeDiff, Nat.sub_zero])
    refine join_now ?_
    have hm := h.obj
    by_cases he : (ops8[j]).2 = op
    · have he' : op = (ops8[j]).2 := he.symm
      (try simp (maxSteps := 1000000) (dsimp := false) (disch := (first | omega | (simp only [okR]; done) | (simp only [sizeR] <;> omega) | fail)) only [↓preR, postR, ↓w_stop, Nat.reduceEqDiff, Nat.reduceAdd, Nat.reduceSub, Nat.reduceMul, Int.reduceNeg, Nat.reduceLT, Int.reduceToNat, Nat.reduceLeDiff, Nat.sub_zero, hm, go2])
      exact hk1 j hj8 he
    · have he' : ¬ op = (ops8[j]).2 := fun h => he h.symm
      (try simp (maxSteps := 1000000) (dsimp := false) (disch := (first | omega | (simp only [okR]; done) | (simp only [sizeR] <;> omega) | fail)) only [↓preR, postR, ↓w_stop, Nat.reduceEqDiff, Nat.reduceAdd, Nat.reduceSub, Nat.reduceMul, Int.reduceNeg, Nat.reduceLT, Int.reduceToNat, Nat.reduceLeDiff, Nat.sub_zero, hm, go2])
      refine hag _ _ _ ⟨j + 1, rfl, rfl, hlt, fun i hi hij => ?_, rfl⟩ (by omega)
      by_cases hij' : i = j
      · subst hij'; exact he
      · exact hno i hi (by omega)
  · (try simp (maxSteps := 1000000) (dsimp := false) (disch := (first | omega | (simp only [okR]; done) | (simp only [sizeR] <;> omega) | fail)) only [↓preR, postR, ↓w_stop, Nat.reduceEqDiff, Nat.reduceAdd, Nat.reduceSub, Nat.reduceMul, Int.reduceNeg, Nat.reduceLT, Int.reduceToNat, Nat.reduceLeDiff, Nat.sub_zero])
    exact hk0 fun i hi => hno i hi (by have : ops8.length = 8 := rfl; omega)
theorem ops_sign : ∀ (j : Nat) (hj : j < ops8.length), (ops8[j]).1 = signP (ops8[j]).2 ∧ 2 ≤ (ops8[j]).2 ∧ (ops8[j]).2 ≤ 9 := by decide
theorem ops_none {op : Int} (h : ∀ (j : Nat) (hj : j < ops8.length), ¬ (ops8[j]).2 = op) : op < 2 ∨ 9 < op := by
  have a0 : ¬ (7 : Int) = op := h 0 (by decide)
  have a1 : ¬ (9 : Int) = op := h 1 (by decide)
  have a2 : ¬ (6 : Int) = op := h 2 (by decide)
  have a3 : ¬ (8 : Int) = op := h 3 (by decide)
  have a4 : ¬ (2 : Int) = op := h 4 (by decide)
  have a5 : ¬ (3 : Int) = op := h 5 (by decide)
  have a6 : ¬ (4 : Int) = op := h 6 (by decide)
  have a7 : ¬ (5 : Int) = op := h 7 (by decide)
  omega
end
end Go.Proofs.YtmgdkoidgoihfaaGreatDoor

/- Words: a part, a word, as they are written. Conditions: as each theorem says. -/
namespace Go.Proofs.YtmgdkoidgoihfaaGreatDoor
open E Go.Lib
open Go.RowKit
set_option linter.unusedVariables false
set_option linter.unusedSimpArgs false
set_option maxHeartbeats 1000000
set_option maxRecDepth 20000

/-- What a word's writing does, for words of a size. -/
def WrC (n : Nat) : Prop := ∀ {σ : AS} {X : Ce} {R : List Ck} {k : Value → AS → Prop} {w : List Pt} {v : Value} {way : Nat}, szW w < n → szW w ≤ 8000 → way ≤ 5 → (hasQ w = true → QuoteC X) → RepL X v w → Hs σ X R → (∀ σ', Hs σ' X R → k (.string (bs (writtenW w way))) σ') → kCall Tryz.prog 33 [v, .int .i64 way] σ k
section
variable {σ σ' : AS} {X : Ce} {R : List Ck} {k : Value → AS → Prop} {p n i f : Nat} {s t set : Str} {c : UInt8} {way : Nat} {q : Bool}
theorem part_c (ih : WrC n) {x : Pt} {v : Value} (hx : RpPt X x (ptC x v)) (hsz : szW x.word < n) (hsz2 : szPt x ≤ 8000) (hw : way ≤ 5) (hQ : hasQp x = true → QuoteC X) (h : Hs σ X R) (hk : ∀ σ', Hs σ' X R → k (.string (bs (partW x way))) σ') :
    kCall Tryz.prog 56 [ptV x v, .int .i64 way] σ k := by
  obtain ⟨va, vn, vc, rfl⟩ := hx.val
  obtain ⟨hxt, _, _, hxw⟩ := hx.rest
  refine f56 ?_
  obtain ⟨kd, tx, qt, op, cl, wd⟩ := x
  simp only [Pt.text, Pt.word] at hxt hsz hxw
  have hpl := part_len (.mk kd tx qt op cl wd) way
  have htl : tx.length ≤ 8000 := by unfold szPt at hsz2; omega
  have hwl : szW wd ≤ 8000 := by unfold szPt at hsz2; omega
  have hwrl : ∀ y, (writtenW wd y).length ≤ 96000 := fun y => by have := written_len wd y; omega
  unfold partW at hk
  have h1 := h.new (cs := ptC (.mk kd tx qt op cl wd) (.slice va vn vc))
  have hcs : ptC (.mk kd tx qt op cl wd) (.slice va vn vc) = [.int .i64 kd, .string (bs tx), .bool qt, .int .i64 op, .bool cl, .slice va vn vc] := rfl
  rw [hcs] at h1
  have hcv : cellsV (ptV (.mk kd tx qt op cl wd) (.slice va vn vc)) = [.int .i64 kd, .string (bs tx), .bool qt, .int .i64 op, .bool cl, .slice va vn vc] := rfl
  (try simp (maxSteps := 1000000) (dsimp := false) (disch := (first | omega | (simp only [okR]; done) | (simp only [sizeR] <;> omega) | fail)) only [↓preR, postR, ↓w_stop, Nat.reduceEqDiff, Nat.reduceAdd, Nat.reduceSub, Nat.reduceMul, Int.reduceNeg, Nat.reduceLT, Int.reduceToNat, Nat.reduceLeDiff, Nat.sub_zero, F56, hcv])
  generalize AS.new σ _ = s1 at h1 ⊢
  generalize σ.n = b at h1 ⊢
  refine style_c hw h1 fun s2 h2 => ?_
  have h3 := h2.new (cs := [.nilFunc, .bool false, .bool false])
  have h4 := h3.put (cs' := [.func (.func (stF way)) #[] #[], .bool (quoteB way), .bool (underB way)])
  (try simp (maxSteps := 1000000) (dsimp := false) (disch := (first | omega | (simp only [okR]; done) | (simp only [sizeR] <;> omega) | fail)) only [↓preR, postR, ↓w_stop, Nat.reduceEqDiff, Nat.reduceAdd, Nat.reduceSub, Nat.reduceMul, Int.reduceNeg, Nat.reduceLT, Int.reduceToNat, Nat.reduceLeDiff, Nat.sub_zero, h3.obj])
  generalize AS.put _ _ _ = s3 at h4 ⊢
  generalize s2.n = st at h4 ⊢
  clear h h1 h2 h3
  refine join_by fun J1 hJ1 => ?_
  have tail1 : ∀ (o : Str) s4, o.length ≤ 200000 → (∀ σ', Hs σ' X R → k (.string (bs (inQ (qt && quoteB way) o))) σ') → Hs s4 X (Cel st [.func (.func (stF way)) #[] #[], .bool (quoteB way), .bool (underB way)] :: Cel b [.int .i64 kd, .string (bs tx), .bool qt, .int .i64 op, .bool cl, .slice va vn vc] :: R) → J1 [.string (bs o)] s4 := by
    intro o s4 hol hk h5
    refine hJ1 _ _ ?_
    clear hJ1
    (try simp (maxSteps := 1000000) (dsimp := false) (disch := (first | omega | (simp only [okR]; done) | (simp only [sizeR] <;> omega) | fail)) only [↓preR, postR, ↓w_stop, Nat.reduceEqDiff, Nat.reduceAdd, Nat.reduceSub, Nat.reduceMul, Int.reduceNeg, Nat.reduceLT, Int.reduceToNat, Nat.reduceLeDiff, Nat.sub_zero])
    refine join_now ?_
    cases hqt : qt with
    | false =>
      rw [hqt] at h5 hk
      (try simp (maxSteps := 1000000) (dsimp := false) (disch := (first | omega | (simp only [okR]; done) | (simp only [sizeR] <;> omega) | fail)) only [↓preR, postR, ↓w_stop, Nat.reduceEqDiff, Nat.reduceAdd, Nat.reduceSub, Nat.reduceMul, Int.reduceNeg, Nat.reduceLT, Int.reduceToNat, Nat.reduceLeDiff, Nat.sub_zero, h5.obj1])
      exact hk _ h5.drop.drop
    | true =>
      rw [hqt] at h5 hk
      cases hqb : quoteB way with
      | false =>
        rw [hqb] at h5 hk
        (try simp (maxSteps := 1000000) (dsimp := false) (disch := (first | omega | (simp only [okR]; done) | (simp only [sizeR] <;> omega) | fail)) only [↓preR, postR, ↓w_stop, Nat.reduceEqDiff, Nat.reduceAdd, Nat.reduceSub, Nat.reduceMul, Int.reduceNeg, Nat.reduceLT, Int.reduceToNat, Nat.reduceLeDiff, Nat.sub_zero, h5.obj, h5.obj1])
        exact hk _ h5.drop.drop
      | true =>
        rw [hqb] at h5 hk
        (try simp (maxSteps := 1000000) (dsimp := false) (disch := (first | omega | (simp only [okR]; done) | (simp only [sizeR] <;> omega) | fail)) only [↓preR, postR, ↓w_stop, Nat.reduceEqDiff, Nat.reduceAdd, Nat.reduceSub, Nat.reduceMul, Int.reduceNeg, Nat.reduceLT, Int.reduceToNat, Nat.reduceLeDiff, Nat.sub_zero, h5.obj, h5.obj1])
        exact hk _ h5.drop.drop
  clear hJ1
  by_cases k1 : kd = 1
  · rw [if_pos k1] at hk
    (try simp (maxSteps := 1000000) (dsimp := false) (disch := (first | omega | (simp only [okR]; done) | (simp only [sizeR] <;> omega) | fail)) only [↓preR, postR, ↓w_stop, Nat.reduceEqDiff, Nat.reduceAdd, Nat.reduceSub, Nat.reduceMul, Int.reduceNeg, Nat.reduceLT, Int.reduceToNat, Nat.reduceLeDiff, Nat.sub_zero, h4.obj1])
    refine join_now ?_
    cases hqt : qt with
    | false =>
      rw [hqt] at h4 hk
      (try simp (maxSteps := 1000000) (dsimp := false) (disch := (first | omega | (simp only [okR]; done) | (simp only [sizeR] <;> omega) | fail)) only [↓preR, postR, ↓w_stop, Nat.reduceEqDiff, Nat.reduceAdd, Nat.reduceSub, Nat.reduceMul, Int.reduceNeg, Nat.reduceLT, Int.reduceToNat, Nat.reduceLeDiff, Nat.sub_zero, h4.obj1])
      exact hk _ h4.drop.drop
    | true =>
      rw [hqt] at h4 hk hQ
      have hQ' : QuoteC X := hQ (by unfold hasQp; simp [k1])
      (try simp (maxSteps := 1000000) (dsimp := false) (disch := (first | omega | (simp only [okR]; done) | (simp only [sizeR] <;> omega) | fail)) only [↓preR, postR, ↓w_stop, Nat.reduceEqDiff, Nat.reduceAdd, Nat.reduceSub, Nat.reduceMul, Int.reduceNeg, Nat.reduceLT, Int.reduceToNat, Nat.reduceLeDiff, Nat.sub_zero, h4.obj, h4.obj1])
      exact lits_c hw (by omega) hQ' h4 fun s5 h5 => hk _ h5.drop.drop
  rw [if_neg k1] at hk
  by_cases k2 : kd = 2
  rotate_left
  · rw [if_neg k2] at hk
    by_cases k3 : kd = 3
    · rw [if_pos k3] at hk
      (try simp (maxSteps := 1000000) (dsimp := false) (disch := (first | omega | (simp only [okR]; done) | (simp only [sizeR] <;> omega) | fail)) only [↓preR, postR, ↓w_stop, Nat.reduceEqDiff, Nat.reduceAdd, Nat.reduceSub, Nat.reduceMul, Int.reduceNeg, Nat.reduceLT, Int.reduceToNat, Nat.reduceLeDiff, Nat.sub_zero, h4.obj1])
      refine tail1 _ _ ?_ hk h4
      simp only [List.length_append, List.length_cons, List.length_nil]; omega
    rw [if_neg k3] at hk
    by_cases k4 : kd = 4
    · rw [if_pos k4] at hk
      (try simp (maxSteps := 1000000) (dsimp := false) (disch := (first | omega | (simp only [okR]; done) | (simp only [sizeR] <;> omega) | fail)) only [↓preR, postR, ↓w_stop, Nat.reduceEqDiff, Nat.reduceAdd, Nat.reduceSub, Nat.reduceMul, Int.reduceNeg, Nat.reduceLT, Int.reduceToNat, Nat.reduceLeDiff, Nat.sub_zero, h4.obj1])
      refine tail1 _ _ ?_ hk h4
      simp only [List.length_append, List.length_cons, List.length_nil]; omega
    rw [if_neg k4] at hk
    (try simp (maxSteps := 1000000) (dsimp := false) (disch := (first | omega | (simp only [okR]; done) | (simp only [sizeR] <;> omega) | fail)) only [↓preR, postR, ↓w_stop, Nat.reduceEqDiff, Nat.reduceAdd, Nat.reduceSub, Nat.reduceMul, Int.reduceNeg, Nat.reduceLT, Int.reduceToNat, Nat.reduceLeDiff, Nat.sub_zero, h4.obj1])
    exact hk _ h4.drop.drop
  rw [if_pos k2] at hk
  (try simp (maxSteps := 1000000) (dsimp := false) (disch := (first | omega | (simp only [okR]; done) | (simp only [sizeR] <;> omega) | fail)) only [↓preR, postR, ↓w_stop, Nat.reduceEqDiff, Nat.reduceAdd, Nat.reduceSub, Nat.reduceMul, Int.reduceNeg, Nat.reduceLT, Int.reduceToNat, Nat.reduceLeDiff, Nat.sub_zero, h4.obj1])
  refine join_by fun J4 hJ4 => ?_
  have tail4 : J4 [.int .i64 (nextP qt op way)] s3 := by
    refine hJ4 _ _ ?_
    clear hJ4
    (try simp (maxSteps := 1000000) (dsimp := false) (disch := (first | omega | (simp only [okR]; done) | (simp only [sizeR] <;> omega) | fail)) only [↓preR, postR, ↓w_stop, Nat.reduceEqDiff, Nat.reduceAdd, Nat.reduceSub, Nat.reduceMul, Int.reduceNeg, Nat.reduceLT, Int.reduceToNat, Nat.reduceLeDiff, Nat.sub_zero, h4.obj1])
    refine join_by fun J5 hJ5 => ?_
    have tail5 : ∀ i0 : Str, i0 = (if op = 1 then [35] else []) ++ tx → J5 [.string (bs i0)] s3 := by
      intro i0 hi0
      have hi0l : i0.length ≤ 8001 := by
        rw [hi0, List.length_append]
        split <;> simp <;> omega
      refine hJ5 _ _ ?_
      clear hJ5
      (try simp (maxSteps := 1000000) (dsimp := false) (disch := (first | omega | (simp only [okR]; done) | (simp only [sizeR] <;> omega) | fail)) only [↓preR, postR, ↓w_stop, Nat.reduceEqDiff, Nat.reduceAdd, Nat.reduceSub, Nat.reduceMul, Int.reduceNeg, Nat.reduceLT, Int.reduceToNat, Nat.reduceLeDiff, Nat.sub_zero])
      refine join_by fun J6 hJ6 => ?_
      have tail6 : ∀ (i1 : Str) s5, i1 = (if op = 1 then [35] else []) ++ (tx ++ ((if cl = true then [58] else []) ++ (if 2 ≤ op ∧ op ≤ 9 then signP op ++ writtenW wd (nextP qt op way) else []))) → Hs s5 X (Cel st [.func (.func (stF way)) #[] #[], .bool (quoteB way), .bool (underB way)] :: Cel b [.int .i64 kd, .string (bs tx), .bool qt, .int .i64 op, .bool cl, .slice va vn vc] :: R) → J6 [.string (bs i1)] s5 := by
        intro i1 s5 hi1 h5
        have hi1l : i1.length ≤ 150000 := by
          have h2 := hwrl (nextP qt op way)
          have h3 := sign_len op
          rw [hi1]
          simp only [List.length_append]
          have e1 : (if op = 1 then ([35] : Str) else []).length ≤ 1 := by split <;> simp
          have e2 : (if cl = true then ([58] : Str) else []).length ≤ 1 := by split <;> simp
          have e3 : (if 2 ≤ op ∧ op ≤ 9 then signP op ++ writtenW wd (nextP qt op way) else []).length ≤ 2 + (writtenW wd (nextP qt op way)).length := by
            split
            · rw [List.length_append]; omega
            · simp
          omega
        refine hJ6 _ _ ?_
        clear hJ6
        by_cases ho : op < 0 ∨ 9 < op
        · rw [if_pos ho] at hk
          by_cases ho0 : op < 0
          · (try simp (maxSteps := 1000000) (dsimp := false) (disch := (first | omega | (simp only [okR]; done) | (simp only [sizeR] <;> omega) | fail)) only [↓preR, postR, ↓w_stop, Nat.reduceEqDiff, Nat.reduceAdd, Nat.reduceSub, Nat.reduceMul, Int.reduceNeg, Nat.reduceLT, Int.reduceToNat, Nat.reduceLeDiff, Nat.sub_zero, h5.obj1])
            exact hk _ h5.drop.drop
          · (try simp (maxSteps := 1000000) (dsimp := false) (disch := (first | omega | (simp only [okR]; done) | (simp only [sizeR] <;> omega) | fail)) only [↓preR, postR, ↓w_stop, Nat.reduceEqDiff, Nat.reduceAdd, Nat.reduceSub, Nat.reduceMul, Int.reduceNeg, Nat.reduceLT, Int.reduceToNat, Nat.reduceLeDiff, Nat.sub_zero, h5.obj1])
            exact hk _ h5.drop.drop
        · rw [if_neg ho] at hk
          (try simp (maxSteps := 1000000) (dsimp := false) (disch := (first | omega | (simp only [okR]; done) | (simp only [sizeR] <;> omega) | fail)) only [↓preR, postR, ↓w_stop, Nat.reduceEqDiff, Nat.reduceAdd, Nat.reduceSub, Nat.reduceMul, Int.reduceNeg, Nat.reduceLT, Int.reduceToNat, Nat.reduceLeDiff, Nat.sub_zero, h5.obj1])
          refine tail1 _ _ ?_ ?_ h5
          · simp only [List.length_append, List.length_cons, List.length_nil]; omega
          · have e : (if 2 ≤ op ∧ op ≤ 9 then signP op ++ writtenW wd (nextP qt op way) else []) = (if 2 ≤ op then signP op ++ writtenW wd (nextP qt op way) else []) := by
              by_cases h2 : 2 ≤ op
              · rw [if_pos ⟨h2, by omega⟩, if_pos h2]
              · rw [if_neg (fun h => h2 h.1), if_neg h2]
            rw [hi1, e]
            simpa using hk
      clear hJ6
      (try simp (maxSteps := 1000000) (dsimp := false) (disch := (first | omega | (simp only [okR]; done) | (simp only [sizeR] <;> omega) | fail)) only [↓preR, postR, ↓w_stop, Nat.reduceEqDiff, Nat.reduceAdd, Nat.reduceSub, Nat.reduceMul, Int.reduceNeg, Nat.reduceLT, Int.reduceToNat, Nat.reduceLeDiff, Nat.sub_zero, h4.obj1])
      refine f71 ?_
      have h6 : Hs _ X (Cel s3.n (ops8.map fun o => .int .i64 o.2) :: _) := h4.new
      have m6 := h6.obj2
      (try simp (maxSteps := 1000000) (dsimp := false) (disch := (first | omega | (simp only [okR]; done) | (simp only [sizeR] <;> omega) | fail)) only [↓preR, postR, ↓w_stop, Nat.reduceEqDiff, Nat.reduceAdd, Nat.reduceSub, Nat.reduceMul, Int.reduceNeg, Nat.reduceLT, Int.reduceToNat, Nat.reduceLeDiff, Nat.sub_zero, F71])
      generalize hs4 : AS.new s3 _ = s4
      have h6 : Hs s4 X (Cel s3.n (ops8.map fun o => .int .i64 o.2) :: Cel st [.func (.func (stF way)) #[] #[], .bool (quoteB way), .bool (underB way)] :: Cel b [.int .i64 kd, .string (bs tx), .bool qt, .int .i64 op, .bool cl, .slice va vn vc] :: R) := by rw [← hs4]; exact h6
      clear hs4 m6
      have e6 := h6.obj2
      (try simp (maxSteps := 1000000) (dsimp := false) (disch := (first | omega | (simp only [okR]; done) | (simp only [sizeR] <;> omega) | fail)) only [↓preR, postR, ↓w_stop, Nat.reduceEqDiff, Nat.reduceAdd, Nat.reduceSub, Nat.reduceMul, Int.reduceNeg, Nat.reduceLT, Int.reduceToNat, Nat.reduceLeDiff, Nat.sub_zero, e6])
      refine index_c h6 (fun j hj hjo => ?_) (fun hno => ?_)
      · obtain ⟨o1, o2, o3⟩ := ops_sign j hj
        have hj8 : j < 8 := hj
        rw [hjo] at o1 o2 o3
        (try simp (maxSteps := 1000000) (dsimp := false) (disch := (first | omega | (simp only [okR]; done) | (simp only [sizeR] <;> omega) | fail)) only [↓preR, postR, ↓w_stop, Nat.reduceEqDiff, Nat.reduceAdd, Nat.reduceSub, Nat.reduceMul, Int.reduceNeg, Nat.reduceLT, Int.reduceToNat, Nat.reduceLeDiff, Nat.sub_zero])
        refine join_by fun J7 hJ7 => ?_
        have tail7 : ∀ i2 : Str, i2 = i0 ++ (if cl = true then [58] else []) → J7 [.string (bs i2)] s4 := by
          intro i2 hi2
          have hi2l : i2.length ≤ 8002 := by
            rw [hi2, List.length_append]
            split <;> simp <;> omega
          refine hJ7 _ _ ?_
          clear hJ7
          (try simp (maxSteps := 1000000) (dsimp := false) (disch := (first | omega | (simp only [okR]; done) | (simp only [sizeR] <;> omega) | fail)) only [↓preR, postR, ↓w_stop, Nat.reduceEqDiff, Nat.reduceAdd, Nat.reduceSub, Nat.reduceMul, Int.reduceNeg, Nat.reduceLT, Int.reduceToNat, Nat.reduceLeDiff, Nat.sub_zero, e6])
          refine f69 ?_
          have h7 : Hs _ X (Cel s4.n (ops8.map fun o => .string (bs o.1)) :: _) := h6.new
          (try simp (maxSteps := 1000000) (dsimp := false) (disch := (first | omega | (simp only [okR]; done) | (simp only [sizeR] <;> omega) | fail)) only [↓preR, postR, ↓w_stop, Nat.reduceEqDiff, Nat.reduceAdd, Nat.reduceSub, Nat.reduceMul, Int.reduceNeg, Nat.reduceLT, Int.reduceToNat, Nat.reduceLeDiff, Nat.sub_zero, F69])
          generalize hs5 : AS.new s4 _ = s5
          have h7 : Hs s5 X (Cel s4.n (ops8.map fun o => .string (bs o.1)) :: Cel s3.n (ops8.map fun o => .int .i64 o.2) :: Cel st [.func (.func (stF way)) #[] #[], .bool (quoteB way), .bool (underB way)] :: Cel b [.int .i64 kd, .string (bs tx), .bool qt, .int .i64 op, .bool cl, .slice va vn vc] :: R) := by rw [← hs5]; exact h7
          clear hs5
          have e7 := h7.obj3
          have go1 : ([.string (bs [35, 35]), .string (bs [37, 37]), .string (bs [35]), .string (bs [37]), .string (bs [45]), .string (bs [61]), .string (bs [63]), .string (bs [43])] : List Value)[j]? = some (.string (bs (signP op))) := by
            rw [← o1]; exact (ops_get hj).1
          have go1' := (ops_get hj).1
          rw [o1] at go1'
          (try simp (maxSteps := 1000000) (dsimp := false) (disch := (first | omega | (simp only [okR]; done) | (simp only [sizeR] <;> omega) | fail)) only [↓preR, postR, ↓w_stop, Nat.reduceEqDiff, Nat.reduceAdd, Nat.reduceSub, Nat.reduceMul, Int.reduceNeg, Nat.reduceLT, Int.reduceToNat, Nat.reduceLeDiff, Nat.sub_zero, e7, h7.obj, go1, go1'])
          refine ih (way := nextP qt op way) hsz hwl (by unfold nextP; split <;> (try split) <;> omega) (fun hq => hQ (by unfold hasQp; simp [hq])) hxw h7 fun s6 h8 => ?_
          have hsl := sign_len op
          have hwl2 := hwrl (nextP qt op way)
          have m8 := h8.obj
          (try simp (maxSteps := 1000000) (dsimp := false) (disch := (first | omega | (simp only [okR]; done) | (simp only [sizeR] <;> omega) | fail)) only [↓preR, postR, ↓w_stop, Nat.reduceEqDiff, Nat.reduceAdd, Nat.reduceSub, Nat.reduceMul, Int.reduceNeg, Nat.reduceLT, Int.reduceToNat, Nat.reduceLeDiff, Nat.sub_zero, m8, go1'])
          refine tail6 _ _ ?_ h8.drop.drop
          have hcc : (2 ≤ op ∧ op ≤ 9) = True := eq_true ⟨o2, o3⟩
          simp only [hi2, hi0, hcc, if_true, List.append_assoc]
        clear hJ7
        cases hcl : cl with
        | true =>
          rw [hcl] at tail7 e6
          (try simp (maxSteps := 1000000) (dsimp := false) (disch := (first | omega | (simp only [okR]; done) | (simp only [sizeR] <;> omega) | fail)) only [↓preR, postR, ↓w_stop, Nat.reduceEqDiff, Nat.reduceAdd, Nat.reduceSub, Nat.reduceMul, Int.reduceNeg, Nat.reduceLT, Int.reduceToNat, Nat.reduceLeDiff, Nat.sub_zero, e6])
          exact tail7 _ rfl
        | false =>
          rw [hcl] at tail7 e6
          (try simp (maxSteps := 1000000) (dsimp := false) (disch := (first | omega | (simp only [okR]; done) | (simp only [sizeR] <;> omega) | fail)) only [↓preR, postR, ↓w_stop, Nat.reduceEqDiff, Nat.reduceAdd, Nat.reduceSub, Nat.reduceMul, Int.reduceNeg, Nat.reduceLT, Int.reduceToNat, Nat.reduceLeDiff, Nat.sub_zero, e6])
          exact tail7 _ (by simp)
      · have hno' := ops_none hno
        have hcond : ¬ (2 ≤ op ∧ op ≤ 9) := by omega
        rw [if_neg hcond] at tail6
        cases hcl : cl with
        | true =>
          rw [hcl] at tail6 e6 h6
          (try simp (maxSteps := 1000000) (dsimp := false) (disch := (first | omega | (simp only [okR]; done) | (simp only [sizeR] <;> omega) | fail)) only [↓preR, postR, ↓w_stop, Nat.reduceEqDiff, Nat.reduceAdd, Nat.reduceSub, Nat.reduceMul, Int.reduceNeg, Nat.reduceLT, Int.reduceToNat, Nat.reduceLeDiff, Nat.sub_zero, e6])
          exact tail6 _ _ (by rw [hi0]; simp) h6.drop
        | false =>
          rw [hcl] at tail6 e6 h6
          (try simp (maxSteps := 1000000) (dsimp := false) (disch := (first | omega | (simp only [okR]; done) | (simp only [sizeR] <;> omega) | fail)) only [↓preR, postR, ↓w_stop, Nat.reduceEqDiff, Nat.reduceAdd, Nat.reduceSub, Nat.reduceMul, Int.reduceNeg, Nat.reduceLT, Int.reduceToNat, Nat.reduceLeDiff, Nat.sub_zero, e6])
          exact tail6 _ _ (by rw [hi0]; simp) h6.drop
    clear hJ5
    by_cases ho1 : op = 1
    · rw [if_pos ho1] at tail5
      (try simp (maxSteps := 1000000) (dsimp := false) (disch := (first | omega | (simp only [okR]; done) | (simp only [sizeR] <;> omega) | fail)) only [↓preR, postR, ↓w_stop, Nat.reduceEqDiff, Nat.reduceAdd, Nat.reduceSub, Nat.reduceMul, Int.reduceNeg, Nat.reduceLT, Int.reduceToNat, Nat.reduceLeDiff, Nat.sub_zero, h4.obj1])
      exact tail5 _ rfl
    · rw [if_neg ho1] at tail5
      (try simp (maxSteps := 1000000) (dsimp := false) (disch := (first | omega | (simp only [okR]; done) | (simp only [sizeR] <;> omega) | fail)) only [↓preR, postR, ↓w_stop, Nat.reduceEqDiff, Nat.reduceAdd, Nat.reduceSub, Nat.reduceMul, Int.reduceNeg, Nat.reduceLT, Int.reduceToNat, Nat.reduceLeDiff, Nat.sub_zero, h4.obj1])
      exact tail5 _ rfl
  clear hJ4
  unfold nextP at tail4
  cases hqt : qt with
  | true =>
    rw [hqt] at tail4 h4
    simp only [Bool.true_or, if_true] at tail4
    by_cases h6 : 6 ≤ op
    · rw [if_pos h6] at tail4
      (try simp (maxSteps := 1000000) (dsimp := false) (disch := (first | omega | (simp only [okR]; done) | (simp only [sizeR] <;> omega) | fail)) only [↓preR, postR, ↓w_stop, Nat.reduceEqDiff, Nat.reduceAdd, Nat.reduceSub, Nat.reduceMul, Int.reduceNeg, Nat.reduceLT, Int.reduceToNat, Nat.reduceLeDiff, Nat.sub_zero, h4.obj1])
      exact tail4
    · rw [if_neg h6] at tail4
      (try simp (maxSteps := 1000000) (dsimp := false) (disch := (first | omega | (simp only [okR]; done) | (simp only [sizeR] <;> omega) | fail)) only [↓preR, postR, ↓w_stop, Nat.reduceEqDiff, Nat.reduceAdd, Nat.reduceSub, Nat.reduceMul, Int.reduceNeg, Nat.reduceLT, Int.reduceToNat, Nat.reduceLeDiff, Nat.sub_zero, h4.obj1])
      exact tail4
  | false =>
    rw [hqt] at tail4 h4
    simp only [Bool.false_or] at tail4
    cases hub : underB way with
    | true =>
      rw [hub] at tail4 h4
      simp only [if_true] at tail4
      by_cases h6 : 6 ≤ op
      · rw [if_pos h6] at tail4
        (try simp (maxSteps := 1000000) (dsimp := false) (disch := (first | omega | (simp only [okR]; done) | (simp only [sizeR] <;> omega) | fail)) only [↓preR, postR, ↓w_stop, Nat.reduceEqDiff, Nat.reduceAdd, Nat.reduceSub, Nat.reduceMul, Int.reduceNeg, Nat.reduceLT, Int.reduceToNat, Nat.reduceLeDiff, Nat.sub_zero, h4.obj, h4.obj1])
        exact tail4
      · rw [if_neg h6] at tail4
        (try simp (maxSteps := 1000000) (dsimp := false) (disch := (first | omega | (simp only [okR]; done) | (simp only [sizeR] <;> omega) | fail)) only [↓preR, postR, ↓w_stop, Nat.reduceEqDiff, Nat.reduceAdd, Nat.reduceSub, Nat.reduceMul, Int.reduceNeg, Nat.reduceLT, Int.reduceToNat, Nat.reduceLeDiff, Nat.sub_zero, h4.obj, h4.obj1])
        exact tail4
    | false =>
      rw [hub] at tail4 h4
      simp only [Bool.false_eq_true, if_false] at tail4
      (try simp (maxSteps := 1000000) (dsimp := false) (disch := (first | omega | (simp only [okR]; done) | (simp only [sizeR] <;> omega) | fail)) only [↓preR, postR, ↓w_stop, Nat.reduceEqDiff, Nat.reduceAdd, Nat.reduceSub, Nat.reduceMul, Int.reduceNeg, Nat.reduceLT, Int.reduceToNat, Nat.reduceLeDiff, Nat.sub_zero, h4.obj, h4.obj1])
      exact tail4
theorem written_c : ∀ n, WrC n := by
  intro n
  induction n with
  | zero => intro σ X R k w v way hn; omega
  | succ n ih =>
    intro σ X R k w v way hn hsz hw hQ hv h hk
    obtain ⟨a, b, o, cap, rfl, hc, hm, hat⟩ := pts_at hv
    unfold maxLen at hm
    have hwl := written_len w way
    refine f33 ?_
    have h1 := Bd.new h
    (try simp (maxSteps := 1000000) (dsimp := false) (disch := (first | omega | (simp only [okR]; done) | (simp only [sizeR] <;> omega) | fail)) only [↓preR, postR, ↓w_stop, Nat.reduceEqDiff, Nat.reduceAdd, Nat.reduceSub, Nat.reduceMul, Int.reduceNeg, Nat.reduceLT, Int.reduceToNat, Nat.reduceLeDiff, Nat.sub_zero, F33])
    generalize AS.new σ _ = s1 at h1 ⊢
    generalize σ.n = p at h1 ⊢
    refine join_by fun J1 hJ1 => ?_
    have tail : ∀ s2, Hs s2 X (Bd p (writtenW w way) :: R) → J1 [] s2 := by
      intro s2 h2
      refine hJ1 _ _ ?_
      (try simp (maxSteps := 1000000) (dsimp := false) (disch := (first | omega | (simp only [okR]; done) | (simp only [sizeR] <;> omega) | fail)) only [↓preR, postR, ↓w_stop, Nat.reduceEqDiff, Nat.reduceAdd, Nat.reduceSub, Nat.reduceMul, Int.reduceNeg, Nat.reduceLT, Int.reduceToNat, Nat.reduceLeDiff, Nat.sub_zero])
      refine bstr_c h2 (by omega) fun s3 h3 => ?_
      (try simp (maxSteps := 1000000) (dsimp := false) (disch := (first | omega | (simp only [okR]; done) | (simp only [sizeR] <;> omega) | fail)) only [↓preR, postR, ↓w_stop, Nat.reduceEqDiff, Nat.reduceAdd, Nat.reduceSub, Nat.reduceMul, Int.reduceNeg, Nat.reduceLT, Int.reduceToNat, Nat.reduceLeDiff, Nat.sub_zero])
      exact hk _ h3
    clear hJ1
    (try simp (maxSteps := 1000000) (dsimp := false) (disch := (first | omega | (simp only [okR]; done) | (simp only [sizeR] <;> omega) | fail)) only [↓preR, postR, ↓w_stop, Nat.reduceEqDiff, Nat.reduceAdd, Nat.reduceSub, Nat.reduceMul, Int.reduceNeg, Nat.reduceLT, Int.reduceToNat, Nat.reduceLeDiff, Nat.sub_zero])
    refine loop_inv (fun nn xs s2 => ∃ j : Nat, xs = [.int .i64 j] ∧ j ≤ w.length ∧ Hs s2 X (Bd p (writtenW (w.take j) way) :: R) ∧ nn = w.length - j) _ ⟨0, rfl, Nat.zero_le _, by simpa [writtenW] using h1, rfl⟩ ?_
    rintro _ _ s2 again ⟨j, rfl, hj, h2, rfl⟩ hag
    (try simp (maxSteps := 1000000) (dsimp := false) (disch := (first | omega | (simp only [okR]; done) | (simp only [sizeR] <;> omega) | fail)) only [↓preR, postR, ↓w_stop, Nat.reduceEqDiff, Nat.reduceAdd, Nat.reduceSub, Nat.reduceMul, Int.reduceNeg, Nat.reduceLT, Int.reduceToNat, Nat.reduceLeDiff, Nat.sub_zero])
    refine join_now ?_
    by_cases hlt : j < w.length
    · have hwt := wr_take w j way hlt
      have hwt2 := wr_len_take w j way
      obtain ⟨rfl, u, g0, g1, g2, g3, g4, c0, c1, c2, c3, c4, c5⟩ := hat j hlt
      have hszl := sz_get w j hlt
      have hql := hasQ_get w j hlt
      generalize w[j] = x at *
      have hszx := szPt_word x
      have hpl := part_len x way
      obtain ⟨va, vn, vc, rfl⟩ := g0.val
      have d0 := h2.ldx c0
      have d1 := h2.ldx c1
      have d2 := h2.ldx c2
      have d3 := h2.ldx c3
      have d4 := h2.ldx c4
      have d5 := h2.ldx c5
      (try simp (maxSteps := 1000000) (dsimp := false) (disch := (first | omega | (simp only [okR]; done) | (simp only [sizeR] <;> omega) | fail)) only [↓preR, postR, ↓w_stop, Nat.reduceEqDiff, Nat.reduceAdd, Nat.reduceSub, Nat.reduceMul, Int.reduceNeg, Nat.reduceLT, Int.reduceToNat, Nat.reduceLeDiff, Nat.sub_zero])
      refine join_now ?_
      have h3 := h2.new (cs := [.int .i64 0, .string (bs []), .bool false, .int .i64 0, .bool false, .slice none 0 0])
      have h4 := h3.put (cs' := ptC x (.slice va vn vc))
      (try simp (maxSteps := 1000000) (dsimp := false) (disch := (first | omega | (simp only [okR]; done) | (simp only [sizeR] <;> omega) | fail)) only [↓preR, postR, ↓w_stop, Nat.reduceEqDiff, Nat.reduceAdd, Nat.reduceSub, Nat.reduceMul, Int.reduceNeg, Nat.reduceLT, Int.reduceToNat, Nat.reduceLeDiff, Nat.sub_zero, d0, d1, d2, d3, d4, d5, h3.obj, h4.obj])
      refine part_c ih g0 (by omega) (by omega) hw (fun hq => hQ (hql hq)) h4 fun s4 h5 => ?_
      (try simp (maxSteps := 1000000) (dsimp := false) (disch := (first | omega | (simp only [okR]; done) | (simp only [sizeR] <;> omega) | fail)) only [↓preR, postR, ↓w_stop, Nat.reduceEqDiff, Nat.reduceAdd, Nat.reduceSub, Nat.reduceMul, Int.reduceNeg, Nat.reduceLT, Int.reduceToNat, Nat.reduceLeDiff, Nat.sub_zero])
      refine wrs_c h5.drop (by omega) fun v s5 h6 => ?_
      (try simp (maxSteps := 1000000) (dsimp := false) (disch := (first | omega | (simp only [okR]; done) | (simp only [sizeR] <;> omega) | fail)) only [↓preR, postR, ↓w_stop, Nat.reduceEqDiff, Nat.reduceAdd, Nat.reduceSub, Nat.reduceMul, Int.reduceNeg, Nat.reduceLT, Int.reduceToNat, Nat.reduceLeDiff, Nat.sub_zero])
      rw [← hwt] at h6
      exact hag _ _ _ ⟨j + 1, rfl, hlt, h6, rfl⟩ (by omega)
    · (try simp (maxSteps := 1000000) (dsimp := false) (disch := (first | omega | (simp only [okR]; done) | (simp only [sizeR] <;> omega) | fail)) only [↓preR, postR, ↓w_stop, Nat.reduceEqDiff, Nat.reduceAdd, Nat.reduceSub, Nat.reduceMul, Int.reduceNeg, Nat.reduceLT, Int.reduceToNat, Nat.reduceLeDiff, Nat.sub_zero])
      rw [List.take_of_length_le (by omega)] at h2
      exact tail s2 h2
/-- A word, printed; the text has the same parts again, or it can't be. -/
def printW (w : List Pt) (way : Nat) : Str × Int := match wordW (writtenW w way) way with
  | .ok v => if eqW v w = true then (writtenW w way, 0) else ([], 1)
  | .bad _ => ([], 1)
abbrev prV (p : Str × Int) : Value := .tuple #[.string (bs p.1), .int .i64 p.2]
theorem print_c {w : List Pt} {v : Value} (hsz : szW w ≤ 8000) (hQ : hasQ w = true → QuoteC X) (hv : RepL X v w) (h : Hs σ X R) (hk : ∀ X' σ', Ce.le X X' → Hs σ' X' R → k (prV (printW w 0)) σ') : kCall Tryz.prog 12 [v] σ k := by
  have hwl := written_len w 0
  refine f12 ?_
  (try simp (maxSteps := 1000000) (dsimp := false) (disch := (first | omega | (simp only [okR]; done) | (simp only [sizeR] <;> omega) | fail)) only [↓preR, postR, ↓w_stop, Nat.reduceEqDiff, Nat.reduceAdd, Nat.reduceSub, Nat.reduceMul, Int.reduceNeg, Nat.reduceLT, Int.reduceToNat, Nat.reduceLeDiff, Nat.sub_zero, F12])
  refine f20 ?_
  (try simp (maxSteps := 1000000) (dsimp := false) (disch := (first | omega | (simp only [okR]; done) | (simp only [sizeR] <;> omega) | fail)) only [↓preR, postR, ↓w_stop, Nat.reduceEqDiff, Nat.reduceAdd, Nat.reduceSub, Nat.reduceMul, Int.reduceNeg, Nat.reduceLT, Int.reduceToNat, Nat.reduceLeDiff, Nat.sub_zero, F20])
  refine written_c _ (way := 0) (Nat.lt_succ_self _) hsz (by omega) hQ hv h fun s1 h1 => ?_
  (try simp (maxSteps := 1000000) (dsimp := false) (disch := (first | omega | (simp only [okR]; done) | (simp only [sizeR] <;> omega) | fail)) only [↓preR, postR, ↓w_stop, Nat.reduceEqDiff, Nat.reduceAdd, Nat.reduceSub, Nat.reduceMul, Int.reduceNeg, Nat.reduceLT, Int.reduceToNat, Nat.reduceLeDiff, Nat.sub_zero])
  refine ⟨k6_ok, ?_⟩
  refine parse_c (s := writtenW w 0) h1 ?_ (by unfold maxLen; omega)
  unfold printW at hk
  have hbad : ∀ e, wordW (writtenW w 0) 0 = .bad e → ¬ e = 0 := by
    intro e he
    unfold wordW at he
    split at he
    · cases he; decide
    · exact rd_ne _ _ _ _ _ (by omega) he
  cases hp : wordW (writtenW w 0) 0 with
  | bad e =>
    rw [hp] at hk
    have he := hbad e hp
    intro X' s2 hX h2
    (try simp (maxSteps := 1000000) (dsimp := false) (disch := (first | omega | (simp only [okR]; done) | (simp only [sizeR] <;> omega) | fail)) only [↓preR, postR, ↓w_stop, Nat.reduceEqDiff, Nat.reduceAdd, Nat.reduceSub, Nat.reduceMul, Int.reduceNeg, Nat.reduceLT, Int.reduceToNat, Nat.reduceLeDiff, Nat.sub_zero])
    refine join_now ?_
    (try simp (maxSteps := 1000000) (dsimp := false) (disch := (first | omega | (simp only [okR]; done) | (simp only [sizeR] <;> omega) | fail)) only [↓preR, postR, ↓w_stop, Nat.reduceEqDiff, Nat.reduceAdd, Nat.reduceSub, Nat.reduceMul, Int.reduceNeg, Nat.reduceLT, Int.reduceToNat, Nat.reduceLeDiff, Nat.sub_zero, he])
    exact hk X' _ hX h2
  | ok u =>
    rw [hp] at hk
    simp only at hk
    intro X' vv s2 hX hvv h2
    (try simp (maxSteps := 1000000) (dsimp := false) (disch := (first | omega | (simp only [okR]; done) | (simp only [sizeR] <;> omega) | fail)) only [↓preR, postR, ↓w_stop, Nat.reduceEqDiff, Nat.reduceAdd, Nat.reduceSub, Nat.reduceMul, Int.reduceNeg, Nat.reduceLT, Int.reduceToNat, Nat.reduceLeDiff, Nat.sub_zero])
    refine join_now ?_
    (try simp (maxSteps := 1000000) (dsimp := false) (disch := (first | omega | (simp only [okR]; done) | (simp only [sizeR] <;> omega) | fail)) only [↓preR, postR, ↓w_stop, Nat.reduceEqDiff, Nat.reduceAdd, Nat.reduceSub, Nat.reduceMul, Int.reduceNeg, Nat.reduceLT, Int.reduceToNat, Nat.reduceLeDiff, Nat.sub_zero])
    refine same_c _ (Nat.lt_succ_self _) hvv (hv.mono hX) h2 fun s3 h3 => ?_
    cases he : eqW u w with
    | true =>
      rw [he] at hk
      (try simp (maxSteps := 1000000) (dsimp := false) (disch := (first | omega | (simp only [okR]; done) | (simp only [sizeR] <;> omega) | fail)) only [↓preR, postR, ↓w_stop, Nat.reduceEqDiff, Nat.reduceAdd, Nat.reduceSub, Nat.reduceMul, Int.reduceNeg, Nat.reduceLT, Int.reduceToNat, Nat.reduceLeDiff, Nat.sub_zero])
      exact hk X' _ hX h3
    | false =>
      rw [he] at hk
      (try simp (maxSteps := 1000000) (dsimp := false) (disch := (first | omega | (simp only [okR]; done) | (simp only [sizeR] <;> omega) | fail)) only [↓preR, postR, ↓w_stop, Nat.reduceEqDiff, Nat.reduceAdd, Nat.reduceSub, Nat.reduceMul, Int.reduceNeg, Nat.reduceLT, Int.reduceToNat, Nat.reduceLeDiff, Nat.sub_zero])
      exact hk X' _ hX h3
end
end Go.Proofs.YtmgdkoidgoihfaaGreatDoor

/- Words: the chapter's examples. Conditions: as each theorem says. -/
namespace Go.Proofs.YtmgdkoidgoihfaaGreatDoor
open E Go.Lib
open Go.RowKit
set_option linter.unusedVariables false
set_option linter.unusedSimpArgs false
set_option maxHeartbeats 1000000
set_option maxRecDepth 20000

theorem aw1 : wordW [97, 39, 98, 32, 99, 39, 34, 100, 34] 0 = .ok [litP [97] false, litP [98, 32, 99, 100] true] := by kernel_rfl
theorem aw2 : wordW [36, 123, 120, 58, 45, 97, 32, 98, 125] 0 = .ok [.mk 2 [120] false 2 true [litP [97, 32, 98] false]] := by kernel_rfl
theorem aw3 : wordW [36, 40, 101, 99, 104, 111, 32, 34, 97, 34, 41, 36, 40, 40, 49, 43, 50, 41, 41] 0 = .ok [.mk 3 [101, 99, 104, 111, 32, 34, 97, 34] false 0 false [], .mk 4 [49, 43, 50] false 0 false []] := by kernel_rfl
theorem aw4 : wordW [36, 123, 125] 0 = .bad 10 := by kernel_rfl
theorem aw5 : wordW [34, 36, 123, 120, 125, 34] 0 = .ok [.mk 2 [120] true 0 false []] := by kernel_rfl
theorem aw6 : printW [.mk 2 [120] true 0 false []] 0 = ([34, 36, 123, 120, 125, 34], 0) := by
  unfold printW
  rw [wx5, aw5]
  simp only [eqW_refl, if_true]
section
variable {σ σ' : AS} {X : Ce} {R : List Ck} {k : Value → AS → Prop}
theorem awake_c (h : Hs σ X R) (hk : ∀ X' σ', Ce.le X X' → Hs σ' X' R → k (.bool true) σ') : kCall Tryz.prog 5 [] σ k := by
  refine f5 ?_
  (try simp (maxSteps := 1000000) (dsimp := false) (disch := (first | omega | (simp only [okR]; done) | (simp only [sizeR] <;> omega) | fail)) only [↓preR, postR, ↓w_stop, Nat.reduceEqDiff, Nat.reduceAdd, Nat.reduceSub, Nat.reduceMul, Int.reduceNeg, Nat.reduceLT, Int.reduceToNat, Nat.reduceLeDiff, Nat.sub_zero, F5])
  refine parse_c h ?_ (by simp [maxLen])
  rw [aw1]
  intro X1 u1 s1 l1 v1 h1
  obtain ⟨a1, b1, o1, cp1, rfl, _, _, at1⟩ := pts_at v1
  (try simp (maxSteps := 1000000) (dsimp := false) (disch := (first | omega | (simp only [okR]; done) | (simp only [sizeR] <;> omega) | fail)) only [↓preR, postR, ↓w_stop, Nat.reduceEqDiff, Nat.reduceAdd, Nat.reduceSub, Nat.reduceMul, Int.reduceNeg, Nat.reduceLT, Int.reduceToNat, Nat.reduceLeDiff, Nat.sub_zero])
  refine parse_c h1 ?_ (by simp [maxLen])
  rw [aw2]
  intro X2 u2 s2 l2 v2 h2
  obtain ⟨a2, b2, o2, cp2, rfl, _, _, at2⟩ := pts_at v2
  (try simp (maxSteps := 1000000) (dsimp := false) (disch := (first | omega | (simp only [okR]; done) | (simp only [sizeR] <;> omega) | fail)) only [↓preR, postR, ↓w_stop, Nat.reduceEqDiff, Nat.reduceAdd, Nat.reduceSub, Nat.reduceMul, Int.reduceNeg, Nat.reduceLT, Int.reduceToNat, Nat.reduceLeDiff, Nat.sub_zero])
  refine parse_c h2 ?_ (by simp [maxLen])
  rw [aw3]
  intro X3 u3 s3 l3 v3 h3
  obtain ⟨a3, b3, o3, cp3, rfl, _, _, at3⟩ := pts_at v3
  (try simp (maxSteps := 1000000) (dsimp := false) (disch := (first | omega | (simp only [okR]; done) | (simp only [sizeR] <;> omega) | fail)) only [↓preR, postR, ↓w_stop, Nat.reduceEqDiff, Nat.reduceAdd, Nat.reduceSub, Nat.reduceMul, Int.reduceNeg, Nat.reduceLT, Int.reduceToNat, Nat.reduceLeDiff, Nat.sub_zero])
  refine parse_c h3 ?_ (by simp [maxLen])
  rw [aw4]
  intro X4 s4 l4 h4
  (try simp (maxSteps := 1000000) (dsimp := false) (disch := (first | omega | (simp only [okR]; done) | (simp only [sizeR] <;> omega) | fail)) only [↓preR, postR, ↓w_stop, Nat.reduceEqDiff, Nat.reduceAdd, Nat.reduceSub, Nat.reduceMul, Int.reduceNeg, Nat.reduceLT, Int.reduceToNat, Nat.reduceLeDiff, Nat.sub_zero])
  have h5 := h4.new (cs := ptC (.mk 2 [120] true 0 false []) (.slice none 0 0))
  have h6 : Hs _ X4 (E.Own (α := Pt) (.slice (some ⟨s4.n, 0, none⟩) 1 1) [.mk 2 [120] true 0 false []] :: R) := h5.lit (RpL.one (leafOk (by simp [maxLen]) (by omega) (by omega))) rfl (by simp [maxLen])
  obtain ⟨X5, l5, v5, h7⟩ := h6.keep
  (try simp (maxSteps := 1000000) (dsimp := false) (disch := (first | omega | (simp only [okR]; done) | (simp only [sizeR] <;> omega) | fail)) only [↓preR, postR, ↓w_stop, Nat.reduceEqDiff, Nat.reduceAdd, Nat.reduceSub, Nat.reduceMul, Int.reduceNeg, Nat.reduceLT, Int.reduceToNat, Nat.reduceLeDiff, Nat.sub_zero])
  refine print_c (by simp [szW, szPt]) (by simp [hasQ, hasQp]) v5 h7 fun X6 s6 l6 h8 => ?_
  rw [aw6]
  have le5 : Ce.le X1 X6 := Ce.le_trans l2 (Ce.le_trans l3 (Ce.le_trans l4 (Ce.le_trans l5 l6)))
  have le4 : Ce.le X2 X6 := Ce.le_trans l3 (Ce.le_trans l4 (Ce.le_trans l5 l6))
  have le3 : Ce.le X3 X6 := Ce.le_trans l4 (Ce.le_trans l5 l6)
  obtain ⟨rfl, w1, _, _, _, _, _, _, c11, c12, _⟩ := at1 1 (by simp)
  obtain ⟨rfl, w2, _, r2, _, _, _, _, _, _, c23, c24, c25⟩ := at2 0 (by simp)
  obtain ⟨rfl, w3, _, _, _, _, _, c30, _⟩ := at3 0 (by simp)
  obtain ⟨_, w4, _, _, _, _, _, c40, c41, _⟩ := at3 1 (by simp)
  obtain ⟨wa, wc, rfl, _⟩ := r2
  have d11 := h8.ldx (le5 _ _ _ c11)
  have d12 := h8.ldx (le5 _ _ _ c12)
  have d23 := h8.ldx (le4 _ _ _ c23)
  have d24 := h8.ldx (le4 _ _ _ c24)
  have d25 := h8.ldx (le4 _ _ _ c25)
  have d30 := h8.ldx (le3 _ _ _ c30)
  have d40 := h8.ldx (le3 _ _ _ c40)
  have d41 := h8.ldx (le3 _ _ _ c41)
  simp only [List.getElem_cons_succ, List.getElem_cons_zero, Pt.kind, Pt.text, Pt.quote, Pt.op, Pt.colon, Pt.word, Nat.one_mul, Nat.zero_mul, Nat.add_zero] at d11 d12 d23 d24 d25 d30 d40 d41
  (try simp (maxSteps := 1000000) (dsimp := false) (disch := (first | omega | (simp only [okR]; done) | (simp only [sizeR] <;> omega) | fail)) only [↓preR, postR, ↓w_stop, Nat.reduceEqDiff, Nat.reduceAdd, Nat.reduceSub, Nat.reduceMul, Int.reduceNeg, Nat.reduceLT, Int.reduceToNat, Nat.reduceLeDiff, Nat.sub_zero, d11, d12, d23, d24, d25, d30, d40, d41])
  exact hk X6 _ (Ce.le_trans l1 le5) h8
end
end Go.Proofs.YtmgdkoidgoihfaaGreatDoor
