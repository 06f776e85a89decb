/- Words: how much there is of one; whether two are the same, as the document has it. Conditions: as each theorem says. -/
import Derived.Test.YtmgdkoidgoihfaaGreatDoorWdL
namespace Go.Proofs.YtmgdkoidgoihfaaGreatDoor
open E Go.Lib
open Go.RowKit
set_option linter.unusedVariables false
set_option linter.unusedSimpArgs false
set_option maxHeartbeats 1000000
set_option maxRecDepth 20000

theorem arg_wordA {H : Type} {enc : TypeId × Value → H} {w : World} {base : Nat} {spare : Nat → Bool} {held : Bool} {r : Reach} {b0 : Nat} {v : Value} {d : DataW H} {ps : List MemPlace} (hval : Value.okWide Tryz.prog w r b0 24 v) (h : DataW.Trod enc Tryz.prog w base spare held 24 v d ps) :
    ∃ l : List Pt, RepL (E.start w).c v l := arg_word h (by obtain ⟨a, b, c, rfl⟩ := Go.WideShapes.okWide_slice Tryz.underlying24 hval; rfl)
/-- What is known of what Size answers. -/
def SzK (w : List Pt) (m : Int) : Prop := inI64 m ∧ (szW w < 4611686018427387904 → 0 ≤ m ∧ m ≤ szW w ∧ (m ≤ 600 → m = szW w))
theorem wrapI (n : Int) : inI64 (IntKind.i64.wrap n) := by
  rw [IntKind.wrap_i64]; unfold inI64; omega
theorem sz_drop : ∀ (w : List Pt) (i : Nat) (hi : i < w.length), szW (w.drop i) = szPt w[i] + szW (w.drop (i + 1))
  | [], i, hi => by simp at hi
  | p :: l, 0, hi => by simp [szW]
  | p :: l, i + 1, hi => by
    have := sz_drop l i (by simpa using hi)
    simpa using this
theorem szPt_def (p : Pt) : szPt p = 1 + p.text.length + szW p.word := by
  cases p; unfold szPt; rfl
theorem size_c : ∀ (n : Nat) {σ : AS} {X : Ce} {R : List Ck} {k : Value → AS → Prop} {w : List Pt} {v : Value}, szW w < n → RepL X v w → Hs σ X R → (∀ m σ', SzK w m → Hs σ' X R → k (.int .i64 m) σ') → kCall Tryz.prog 11 [v] σ k := by
  intro n
  induction n with
  | zero => intro σ X R k w v hn; omega
  | succ n ih =>
    intro σ X R k w v hn hv h hk
    obtain ⟨a, b, o, cap, rfl, hc, hm, hat⟩ := pts_at hv
    unfold maxLen at hm
    refine f11 ?_
    (try simp (maxSteps := 1000000) (dsimp := false) (disch := (first | omega | (simp only [okR]; done) | (simp only [sizeR] <;> omega) | fail)) only [↓preR, postR, ↓w_stop, Nat.reduceEqDiff, Nat.reduceAdd, Nat.reduceSub, Nat.reduceMul, Int.reduceNeg, Nat.reduceLT, Int.reduceToNat, Nat.reduceLeDiff, Nat.sub_zero, F11])
    refine join_now ?_
    refine loop_inv (fun nn xs s2 => ∃ (j : Nat) (m : Int), xs = [.int .i64 m, .int .i64 j] ∧ j ≤ w.length ∧ Hs s2 X R ∧ inI64 m ∧ (szW w < 4611686018427387904 → 0 ≤ m ∧ m + szW (w.drop j) ≤ szW w ∧ (m ≤ 600 → m + szW (w.drop j) = szW w)) ∧ nn = w.length - j) _
      ⟨0, 0, rfl, Nat.zero_le _, h, by unfold inI64; omega, fun _ => ⟨by omega, by simp, fun _ => by simp⟩, rfl⟩ ?_
    rintro _ _ s2 again ⟨j, m, rfl, hj, h2, hmi, hmk, rfl⟩ hag
    unfold inI64 at hmi
    (try simp (maxSteps := 1000000) (dsimp := false) (disch := (first | omega | (simp only [okR]; done) | (simp only [sizeR] <;> omega) | fail)) only [↓preR, postR, ↓w_stop, Nat.reduceEqDiff, Nat.reduceAdd, Nat.reduceSub, Nat.reduceMul, Int.reduceNeg, Nat.reduceLT, Int.reduceToNat, Nat.reduceLeDiff, Nat.sub_zero])
    refine join_now ?_
    by_cases hlt : j < w.length
    rotate_left
    · rw [List.drop_of_length_le (by omega)] at hmk
      have h0 : szW ([] : List Pt) = 0 := by simp [szW]
      rw [h0] at hmk
      (try simp (maxSteps := 1000000) (dsimp := false) (disch := (first | omega | (simp only [okR]; done) | (simp only [sizeR] <;> omega) | fail)) only [↓preR, postR, ↓w_stop, Nat.reduceEqDiff, Nat.reduceAdd, Nat.reduceSub, Nat.reduceMul, Int.reduceNeg, Nat.reduceLT, Int.reduceToNat, Nat.reduceLeDiff, Nat.sub_zero])
      exact hk m _ ⟨hmi, fun hs => by have := hmk hs; exact ⟨this.1, by omega, fun h6 => by have := this.2.2 h6; omega⟩⟩ h2
    by_cases h6 : m ≤ 600
    rotate_left
    · (try simp (maxSteps := 1000000) (dsimp := false) (disch := (first | omega | (simp only [okR]; done) | (simp only [sizeR] <;> omega) | fail)) only [↓preR, postR, ↓w_stop, Nat.reduceEqDiff, Nat.reduceAdd, Nat.reduceSub, Nat.reduceMul, Int.reduceNeg, Nat.reduceLT, Int.reduceToNat, Nat.reduceLeDiff, Nat.sub_zero])
      exact hk m _ ⟨hmi, fun hs => by have := hmk hs; exact ⟨this.1, by omega, fun h7 => by omega⟩⟩ h2
    rw [sz_drop w j hlt] at hmk
    have hszl := sz_get w j hlt
    obtain ⟨rfl, u, g0, g1, g2, g3, g4, c0, c1, c2, c3, c4, c5⟩ := hat j hlt
    generalize w[j] = x at *
    have hszx := szPt_word x
    have hdf := szPt_def x
    have d1 := h2.ldx c1
    have d5 := h2.ldx c5
    unfold maxLen at g2
    (try simp (maxSteps := 1000000) (dsimp := false) (disch := (first | omega | (simp only [okR]; done) | (simp only [sizeR] <;> omega) | fail)) only [↓preR, postR, ↓w_stop, Nat.reduceEqDiff, Nat.reduceAdd, Nat.reduceSub, Nat.reduceMul, Int.reduceNeg, Nat.reduceLT, Int.reduceToNat, Nat.reduceLeDiff, Nat.sub_zero])
    refine join_now ?_
    (try simp (maxSteps := 1000000) (dsimp := false) (disch := (first | omega | (simp only [okR]; done) | (simp only [sizeR] <;> omega) | fail)) only [↓preR, postR, ↓w_stop, Nat.reduceEqDiff, Nat.reduceAdd, Nat.reduceSub, Nat.reduceMul, Int.reduceNeg, Nat.reduceLT, Int.reduceToNat, Nat.reduceLeDiff, Nat.sub_zero, d1, d5])
    refine ih (by omega) g1 h2 fun m2 s3 hm2 h3 => ?_
    have e1 := h3.ldx c1
    obtain ⟨hm2i, hm2k⟩ := hm2
    (try simp (maxSteps := 1000000) (dsimp := false) (disch := (first | omega | (simp only [okR]; done) | (simp only [sizeR] <;> omega) | fail)) only [↓preR, postR, ↓w_stop, Nat.reduceEqDiff, Nat.reduceAdd, Nat.reduceSub, Nat.reduceMul, Int.reduceNeg, Nat.reduceLT, Int.reduceToNat, Nat.reduceLeDiff, Nat.sub_zero, e1])
    refine hag _ _ _ ⟨j + 1, _, rfl, hlt, h3, wrapI _, fun hs => ?_, rfl⟩ (by omega)
    obtain ⟨a1, a2, a3⟩ := hmk hs
    obtain ⟨b1, b2, b3⟩ := hm2k (by omega)
    have a3 := a3 h6
    generalize hmin : (if (1000 : Int) < (x.text.length : Int) then (1000 : Int) else (x.text.length : Int)) = tm
    have htm : 0 ≤ tm ∧ tm ≤ x.text.length ∧ (tm < 1000 → tm = x.text.length) := by
      rw [← hmin]
      split
      · exact ⟨by omega, by omega, fun h => by omega⟩
      · exact ⟨by omega, by omega, fun _ => rfl⟩
    rw [wrap64 _ (by omega) (by omega)]
    refine ⟨by omega, by omega, fun h => ?_⟩
    have := b3 (by omega)
    have := htm.2.2 (by omega)
    omega
theorem rsame_c : ∀ (n : Nat) {σ : AS} {X : Ce} {R : List Ck} {k : Value → AS → Prop} {l m : List Pt} {v u : Value}, szW l < n → RepL X v l → RepL X u m → Hs σ X R → (∀ σ', Hs σ' X R → k (.bool (eqW l m)) σ') → kCall Tryz.prog 10 [v, u] σ k := by
  intro n
  induction n with
  | zero => intro σ X R k l m v u hn; omega
  | succ n ih =>
    intro σ X R k l m v u hn hv hu h hk
    obtain ⟨a, b, o, cap, rfl, hc, hm, hat⟩ := pts_at hv
    obtain ⟨a', b', o', cap', rfl, hc', hm', hat'⟩ := pts_at hu
    unfold maxLen at hm hm'
    refine f10 ?_
    (try simp (maxSteps := 1000000) (dsimp := false) (disch := (first | omega | (simp only [okR]; done) | (simp only [sizeR] <;> omega) | fail)) only [↓preR, postR, ↓w_stop, Nat.reduceEqDiff, Nat.reduceAdd, Nat.reduceSub, Nat.reduceMul, Int.reduceNeg, Nat.reduceLT, Int.reduceToNat, Nat.reduceLeDiff, Nat.sub_zero, F10])
    refine join_now ?_
    by_cases hl : l.length = m.length
    rotate_left
    · rw [eqW_len hl] at hk
      (try simp (maxSteps := 1000000) (dsimp := false) (disch := (first | omega | (simp only [okR]; done) | (simp only [sizeR] <;> omega) | fail)) only [↓preR, postR, ↓w_stop, Nat.reduceEqDiff, Nat.reduceAdd, Nat.reduceSub, Nat.reduceMul, Int.reduceNeg, Nat.reduceLT, Int.reduceToNat, Nat.reduceLeDiff, Nat.sub_zero])
      exact hk _ h
    (try simp (maxSteps := 1000000) (dsimp := false) (disch := (first | omega | (simp only [okR]; done) | (simp only [sizeR] <;> omega) | fail)) only [↓preR, postR, ↓w_stop, Nat.reduceEqDiff, Nat.reduceAdd, Nat.reduceSub, Nat.reduceMul, Int.reduceNeg, Nat.reduceLT, Int.reduceToNat, Nat.reduceLeDiff, Nat.sub_zero])
    refine join_now ?_
    refine loop_inv (fun nn xs s1 => ∃ j : Nat, xs = [.int .i64 j] ∧ j ≤ l.length ∧ Hs s1 X R ∧ eqW (l.drop j) (m.drop j) = eqW l m ∧ nn = l.length - j) _ ⟨0, rfl, Nat.zero_le _, h, rfl, rfl⟩ ?_
    rintro _ _ s1 again ⟨j, rfl, hj, h1, he, rfl⟩ hag
    (try simp (maxSteps := 1000000) (dsimp := false) (disch := (first | omega | (simp only [okR]; done) | (simp only [sizeR] <;> omega) | fail)) only [↓preR, postR, ↓w_stop, Nat.reduceEqDiff, Nat.reduceAdd, Nat.reduceSub, Nat.reduceMul, Int.reduceNeg, Nat.reduceLT, Int.reduceToNat, Nat.reduceLeDiff, Nat.sub_zero])
    refine join_now ?_
    by_cases hlt : j < l.length
    · have hlt' : j < m.length := by omega
      rw [List.drop_eq_getElem_cons hlt, List.drop_eq_getElem_cons hlt'] at he
      simp only [eqW] at he
      obtain ⟨rfl, w, g0, g1, g2, g3, g4, c0, c1, c2, c3, c4, c5⟩ := hat j hlt
      obtain ⟨rfl, w', g0', g1', g2', g3', g4', c0', c1', c2', c3', c4', c5'⟩ := hat' j hlt'
      have hszl := sz_get l j hlt
      generalize l[j] = x at *
      generalize m[j] = y at *
      have hszx := szPt_word x
      obtain ⟨va, vn, vc, rfl⟩ := g0.val
      obtain ⟨va', vn', vc', rfl⟩ := g0'.val
      (try simp (maxSteps := 1000000) (dsimp := false) (disch := (first | omega | (simp only [okR]; done) | (simp only [sizeR] <;> omega) | fail)) only [↓preR, postR, ↓w_stop, Nat.reduceEqDiff, Nat.reduceAdd, Nat.reduceSub, Nat.reduceMul, Int.reduceNeg, Nat.reduceLT, Int.reduceToNat, Nat.reduceLeDiff, Nat.sub_zero])
      refine join_now ?_
      have d0 := h1.ldx c0
      have d1 := h1.ldx c1
      have d2 := h1.ldx c2
      have d3 := h1.ldx c3
      have d4 := h1.ldx c4
      have d5 := h1.ldx c5
      have h2 := h1.new (cs := [.int .i64 0, .string (bs []), .bool false, .int .i64 0, .bool false, .slice none 0 0])
      have h3 := h2.put (cs' := ptC x (.slice va vn vc))
      have f0 := h3.ldx c0'
      have f1 := h3.ldx c1'
      have f2 := h3.ldx c2'
      have f3 := h3.ldx c3'
      have f4 := h3.ldx c4'
      have f5 := h3.ldx c5'
      (try simp (maxSteps := 1000000) (dsimp := false) (disch := (first | omega | (simp only [okR]; done) | (simp only [sizeR] <;> omega) | fail)) only [↓preR, postR, ↓w_stop, Nat.reduceEqDiff, Nat.reduceAdd, Nat.reduceSub, Nat.reduceMul, Int.reduceNeg, Nat.reduceLT, Int.reduceToNat, Nat.reduceLeDiff, Nat.sub_zero, d0, d1, d2, d3, d4, d5, h2.obj])
      generalize hb : s1.n = q1 at h3 f0 f1 f2 f3 f4 f5 ⊢
      generalize hs3 : AS.put _ q1 _ = s3 at h3 f0 f1 f2 f3 f4 f5 ⊢
      rw [show s1.c = s3.c from by rw [← hs3]; rfl] 
      have h4 := h3.new (cs := [.int .i64 0, .string (bs []), .bool false, .int .i64 0, .bool false, .slice none 0 0])
      have h5 := h4.put (cs' := ptC y (.slice va' vn' vc'))
      have e1 := h5.obj
      have e2 := h5.obj1
      have no : eqPt x y = false → ∀ s6, Hs s6 X R → k (.bool false) s6 := by
        intro hbb s6 h9
        rw [hbb, Bool.false_and] at he
        rw [← he] at hk
        exact hk _ h9
      have yes : eqPt x y = true → ∀ s6, Hs s6 X R → again [.int .i64 ((j : Int) + 1)] s6 := by
        intro hbb s6 h9
        rw [hbb, Bool.true_and] at he
        exact hag _ _ _ ⟨j + 1, rfl, hlt, h9, he, rfl⟩ (by omega)
      rw [eqPt_def] at no yes
      by_cases k1 : x.kind = y.kind
      rotate_left
      · (try simp (maxSteps := 1000000) (dsimp := false) (disch := (first | omega | (simp only [okR]; done) | (simp only [sizeR] <;> omega) | fail)) only [↓preR, postR, ↓w_stop, Nat.reduceEqDiff, Nat.reduceAdd, Nat.reduceSub, Nat.reduceMul, Int.reduceNeg, Nat.reduceLT, Int.reduceToNat, Nat.reduceLeDiff, Nat.sub_zero, f0, f1, f2, f3, f4, f5, h4.obj, e1, e2])
        exact no (by simp [k1]) _ h5.drop.drop
      by_cases k2 : x.text = y.text
      rotate_left
      · have k2' : (x.text = y.text) = False := eq_false k2
        (try simp (maxSteps := 1000000) (dsimp := false) (disch := (first | omega | (simp only [okR]; done) | (simp only [sizeR] <;> omega) | fail)) only [↓preR, postR, ↓w_stop, Nat.reduceEqDiff, Nat.reduceAdd, Nat.reduceSub, Nat.reduceMul, Int.reduceNeg, Nat.reduceLT, Int.reduceToNat, Nat.reduceLeDiff, Nat.sub_zero, f0, f1, f2, f3, f4, f5, h4.obj, e1, e2, k2'])
        exact no (by simp [k2]) _ h5.drop.drop
      have k2' : (x.text = y.text) = True := eq_true k2
      cases k3 : (x.quote == y.quote) with
      | false =>
        (try simp (maxSteps := 1000000) (dsimp := false) (disch := (first | omega | (simp only [okR]; done) | (simp only [sizeR] <;> omega) | fail)) only [↓preR, postR, ↓w_stop, Nat.reduceEqDiff, Nat.reduceAdd, Nat.reduceSub, Nat.reduceMul, Int.reduceNeg, Nat.reduceLT, Int.reduceToNat, Nat.reduceLeDiff, Nat.sub_zero, f0, f1, f2, f3, f4, f5, h4.obj, e1, e2, k2', k3])
        exact no (by simp [k3]) _ h5.drop.drop
      | true =>
      by_cases k4 : x.op = y.op
      rotate_left
      · (try simp (maxSteps := 1000000) (dsimp := false) (disch := (first | omega | (simp only [okR]; done) | (simp only [sizeR] <;> omega) | fail)) only [↓preR, postR, ↓w_stop, Nat.reduceEqDiff, Nat.reduceAdd, Nat.reduceSub, Nat.reduceMul, Int.reduceNeg, Nat.reduceLT, Int.reduceToNat, Nat.reduceLeDiff, Nat.sub_zero, f0, f1, f2, f3, f4, f5, h4.obj, e1, e2, k2', k3])
        exact no (by simp [k4]) _ h5.drop.drop
      cases k5 : (x.colon == y.colon) with
      | false =>
        (try simp (maxSteps := 1000000) (dsimp := false) (disch := (first | omega | (simp only [okR]; done) | (simp only [sizeR] <;> omega) | fail)) only [↓preR, postR, ↓w_stop, Nat.reduceEqDiff, Nat.reduceAdd, Nat.reduceSub, Nat.reduceMul, Int.reduceNeg, Nat.reduceLT, Int.reduceToNat, Nat.reduceLeDiff, Nat.sub_zero, f0, f1, f2, f3, f4, f5, h4.obj, e1, e2, k2', k3, k5])
        exact no (by simp [k5]) _ h5.drop.drop
      | true =>
      (try simp (maxSteps := 1000000) (dsimp := false) (disch := (first | omega | (simp only [okR]; done) | (simp only [sizeR] <;> omega) | fail)) only [↓preR, postR, ↓w_stop, Nat.reduceEqDiff, Nat.reduceAdd, Nat.reduceSub, Nat.reduceMul, Int.reduceNeg, Nat.reduceLT, Int.reduceToNat, Nat.reduceLeDiff, Nat.sub_zero, f0, f1, f2, f3, f4, f5, h4.obj, e1, e2, k2', k3, k5])
      refine ih (by omega) g1 g1' h5.drop.drop fun s6 h9 => ?_
      rw [decide_eq_true k1, decide_eq_true k2, k3, decide_eq_true k4, k5] at no yes
      simp only [Bool.true_and] at no yes
      cases hw : eqW x.word y.word with
      | true =>
        (try simp (maxSteps := 1000000) (dsimp := false) (disch := (first | omega | (simp only [okR]; done) | (simp only [sizeR] <;> omega) | fail)) only [↓preR, postR, ↓w_stop, Nat.reduceEqDiff, Nat.reduceAdd, Nat.reduceSub, Nat.reduceMul, Int.reduceNeg, Nat.reduceLT, Int.reduceToNat, Nat.reduceLeDiff, Nat.sub_zero])
        exact yes hw _ h9
      | false =>
        (try simp (maxSteps := 1000000) (dsimp := false) (disch := (first | omega | (simp only [okR]; done) | (simp only [sizeR] <;> omega) | fail)) only [↓preR, postR, ↓w_stop, Nat.reduceEqDiff, Nat.reduceAdd, Nat.reduceSub, Nat.reduceMul, Int.reduceNeg, Nat.reduceLT, Int.reduceToNat, Nat.reduceLeDiff, Nat.sub_zero])
        exact no hw _ h9
    · (try simp (maxSteps := 1000000) (dsimp := false) (disch := (first | omega | (simp only [okR]; done) | (simp only [sizeR] <;> omega) | fail)) only [↓preR, postR, ↓w_stop, Nat.reduceEqDiff, Nat.reduceAdd, Nat.reduceSub, Nat.reduceMul, Int.reduceNeg, Nat.reduceLT, Int.reduceToNat, Nat.reduceLeDiff, Nat.sub_zero])
      have e0 : l.drop j = [] := List.drop_of_length_le (by omega)
      have e1 : m.drop j = [] := List.drop_of_length_le (by omega)
      rw [e0, e1] at he
      have he : true = eqW l m := by simpa [eqW] using he
      rw [← he] at hk
      exact hk _ h1
end Go.Proofs.YtmgdkoidgoihfaaGreatDoor
