/- The law WordShaped: what is read has its shape, and so the program says. Conditions: as each theorem says. -/
import Derived.Test.YtmgdkoidgoihfaaDoorWdN
namespace Go.Proofs.YtmgdkoidgoihfaaDoor
open E Go.Lib
open Go.RowKit
set_option linter.unusedVariables false
set_option linter.unusedSimpArgs false
set_option maxHeartbeats 1000000
set_option maxRecDepth 20000

theorem shaped_c : ∀ (n : Nat) {σ : AS} {X : Ce} {R : List Ck} {k : Value → AS → Prop} {w : List Pt} {v : Value}, szW w < n → ShW w → RepL X v w → Hs σ X R → (∀ σ', Hs σ' X R → k (.bool true) σ') → kCall Tryd.prog 11 [v] σ k := by
  intro n
  induction n with
  | zero => intro σ X R k w v hn; omega
  | succ n ih =>
    intro σ X R k w v hn hw hv h hk
    obtain ⟨a, b, o, cap, rfl, hc, hm, hat⟩ := pts_at hv
    unfold maxLen at hm
    refine f11 ?_
    (try simp (maxSteps := 1000000) (dsimp := false) (disch := (first | omega | (simp only [okR]; done) | (simp only [sizeR] <;> omega) | fail)) only [↓preR, postR, ↓w_stop, Nat.reduceEqDiff, Nat.reduceAdd, Nat.reduceSub, Nat.reduceMul, Int.reduceNeg, Nat.reduceLT, Int.reduceToNat, Nat.reduceLeDiff, Nat.sub_zero, F11])
    refine join_now ?_
    refine loop_inv (fun nn xs s2 => ∃ j : Nat, xs = [.int .i64 j] ∧ j ≤ w.length ∧ Hs s2 X R ∧ nn = w.length - j) _ ⟨0, rfl, Nat.zero_le _, h, rfl⟩ ?_
    rintro _ _ s2 again ⟨j, rfl, hj, h2, rfl⟩ hag
    (try simp (maxSteps := 1000000) (dsimp := false) (disch := (first | omega | (simp only [okR]; done) | (simp only [sizeR] <;> omega) | fail)) only [↓preR, postR, ↓w_stop, Nat.reduceEqDiff, Nat.reduceAdd, Nat.reduceSub, Nat.reduceMul, Int.reduceNeg, Nat.reduceLT, Int.reduceToNat, Nat.reduceLeDiff, Nat.sub_zero])
    refine join_now ?_
    by_cases hlt : j < w.length
    rotate_left
    · (try simp (maxSteps := 1000000) (dsimp := false) (disch := (first | omega | (simp only [okR]; done) | (simp only [sizeR] <;> omega) | fail)) only [↓preR, postR, ↓w_stop, Nat.reduceEqDiff, Nat.reduceAdd, Nat.reduceSub, Nat.reduceMul, Int.reduceNeg, Nat.reduceLT, Int.reduceToNat, Nat.reduceLeDiff, Nat.sub_zero])
      exact hk _ h2
    have hok := hw.1 j hlt
    have hadj := hw.2 (j - 1)
    have hprev : 0 < j → ∃ y, w[j - 1]? = some y ∧ a = some ⟨b, o, none⟩ ∧ X b (o + (j - 1) * 6) = some (.int .i64 y.kind) ∧ X b (o + (j - 1) * 6 + 2) = some (.bool y.quote) := by
      intro h0
      have hlt2 : j - 1 < w.length := by omega
      obtain ⟨ha, _, _, _, _, _, _, c0, _, c2, _⟩ := hat (j - 1) hlt2
      exact ⟨w[j - 1], List.getElem?_eq_getElem hlt2, ha, c0, c2⟩
    have hx? : w[j]? = some w[j] := List.getElem?_eq_getElem hlt
    obtain ⟨rfl, u, g0, g1, g2, g3, g4, c0, c1, c2, c3, c4, c5⟩ := hat j hlt
    have hszl := sz_get w j hlt
    generalize w[j] = x at *
    obtain ⟨va, vn, vc, rfl⟩ := g0.val
    have d0 := h2.ldx c0
    have d1 := h2.ldx c1
    have d2 := h2.ldx c2
    have d3 := h2.ldx c3
    have d4 := h2.ldx c4
    have d5 := h2.ldx c5
    (try simp (maxSteps := 1000000) (dsimp := false) (disch := (first | omega | (simp only [okR]; done) | (simp only [sizeR] <;> omega) | fail)) only [↓preR, postR, ↓w_stop, Nat.reduceEqDiff, Nat.reduceAdd, Nat.reduceSub, Nat.reduceMul, Int.reduceNeg, Nat.reduceLT, Int.reduceToNat, Nat.reduceLeDiff, Nat.sub_zero])
    refine join_now ?_
    have h3 := h2.new (cs := [.int .i64 0, .string (bs []), .bool false, .int .i64 0, .bool false, .slice none 0 0])
    have h4 := h3.put (cs' := ptC x (.slice va vn vc))
    (try simp (maxSteps := 1000000) (dsimp := false) (disch := (first | omega | (simp only [okR]; done) | (simp only [sizeR] <;> omega) | fail)) only [↓preR, postR, ↓w_stop, Nat.reduceEqDiff, Nat.reduceAdd, Nat.reduceSub, Nat.reduceMul, Int.reduceNeg, Nat.reduceLT, Int.reduceToNat, Nat.reduceLeDiff, Nat.sub_zero, d0, d1, d2, d3, d4, d5, h3.obj])
    generalize AS.put _ s2.n _ = s3 at h4 ⊢
    generalize s2.n = p at h4 ⊢
    clear d0 d1 d2 d3 d4 d5 h3
    have e4 := h4.obj
    obtain ⟨kd, tx, qt, op, cl, wd⟩ := x
    have hck : ptC (.mk kd tx qt op cl wd) (.slice va vn vc) = [.int .i64 kd, .string (bs tx), .bool qt, .int .i64 op, .bool cl, .slice va vn vc] := rfl
    rw [hck] at e4
    simp only [Pt.word] at g1
    have hszx : szW wd < n := by unfold szPt at hszl; omega
    cases hok with
    | mk _ _ _ _ _ _ q1 q2 q3 q4 q5 q6 q7 q8 q9 qa =>
    have hvn : op < 2 → vn = 0 := by
      intro h
      obtain ⟨_, _, e, _⟩ := g1
      injection e with _ e _
      rw [e, q7 h]; rfl
    refine join_by fun J5 hJ5 => ?_
    have tail5 : J5 [] s3 := by
      refine hJ5 _ _ ?_
      clear hJ5
      (try simp (maxSteps := 1000000) (dsimp := false) (disch := (first | omega | (simp only [okR]; done) | (simp only [sizeR] <;> omega) | fail)) only [↓preR, postR, ↓w_stop, Nat.reduceEqDiff, Nat.reduceAdd, Nat.reduceSub, Nat.reduceMul, Int.reduceNeg, Nat.reduceLT, Int.reduceToNat, Nat.reduceLeDiff, Nat.sub_zero])
      refine join_by fun J6 hJ6 => ?_
      have tail6 : J6 [] s3 := by
        refine hJ6 _ _ ?_
        clear hJ6
        have last : ∀ σ', Hs σ' X (Cel p [.int .i64 kd, .string (bs tx), .bool qt, .int .i64 op, .bool cl, .slice va vn vc] :: R) → again [.int .i64 ((j : Int) + 1)] σ' := fun σ' h5 => hag _ _ _ ⟨j + 1, rfl, hlt, h5.drop, rfl⟩ (by omega)
        by_cases o2 : op < 2
        · have hv0 := hvn o2
          cases hcl : cl with
          | true => have := q8 hcl; omega
          | false =>
            subst hv0
            rw [hcl] at e4 h4 last
            (try simp (maxSteps := 1000000) (dsimp := false) (disch := (first | omega | (simp only [okR]; done) | (simp only [sizeR] <;> omega) | fail)) only [↓preR, postR, ↓w_stop, Nat.reduceEqDiff, Nat.reduceAdd, Nat.reduceSub, Nat.reduceMul, Int.reduceNeg, Nat.reduceLT, Int.reduceToNat, Nat.reduceLeDiff, Nat.sub_zero, e4])
            refine ih hszx ⟨q9, qa⟩ g1 h4 fun s5 h5 => ?_
            (try simp (maxSteps := 1000000) (dsimp := false) (disch := (first | omega | (simp only [okR]; done) | (simp only [sizeR] <;> omega) | fail)) only [↓preR, postR, ↓w_stop, Nat.reduceEqDiff, Nat.reduceAdd, Nat.reduceSub, Nat.reduceMul, Int.reduceNeg, Nat.reduceLT, Int.reduceToNat, Nat.reduceLeDiff, Nat.sub_zero])
            exact last _ h5
        · cases hcl : cl with
          | true =>
            have := q8 hcl
            rw [hcl] at e4 h4 last
            (try simp (maxSteps := 1000000) (dsimp := false) (disch := (first | omega | (simp only [okR]; done) | (simp only [sizeR] <;> omega) | fail)) only [↓preR, postR, ↓w_stop, Nat.reduceEqDiff, Nat.reduceAdd, Nat.reduceSub, Nat.reduceMul, Int.reduceNeg, Nat.reduceLT, Int.reduceToNat, Nat.reduceLeDiff, Nat.sub_zero, e4])
            refine ih hszx ⟨q9, qa⟩ g1 h4 fun s5 h5 => ?_
            (try simp (maxSteps := 1000000) (dsimp := false) (disch := (first | omega | (simp only [okR]; done) | (simp only [sizeR] <;> omega) | fail)) only [↓preR, postR, ↓w_stop, Nat.reduceEqDiff, Nat.reduceAdd, Nat.reduceSub, Nat.reduceMul, Int.reduceNeg, Nat.reduceLT, Int.reduceToNat, Nat.reduceLeDiff, Nat.sub_zero])
            exact last _ h5
          | false =>
            rw [hcl] at e4 h4 last
            (try simp (maxSteps := 1000000) (dsimp := false) (disch := (first | omega | (simp only [okR]; done) | (simp only [sizeR] <;> omega) | fail)) only [↓preR, postR, ↓w_stop, Nat.reduceEqDiff, Nat.reduceAdd, Nat.reduceSub, Nat.reduceMul, Int.reduceNeg, Nat.reduceLT, Int.reduceToNat, Nat.reduceLeDiff, Nat.sub_zero, e4])
            refine ih hszx ⟨q9, qa⟩ g1 h4 fun s5 h5 => ?_
            (try simp (maxSteps := 1000000) (dsimp := false) (disch := (first | omega | (simp only [okR]; done) | (simp only [sizeR] <;> omega) | fail)) only [↓preR, postR, ↓w_stop, Nat.reduceEqDiff, Nat.reduceAdd, Nat.reduceSub, Nat.reduceMul, Int.reduceNeg, Nat.reduceLT, Int.reduceToNat, Nat.reduceLeDiff, Nat.sub_zero])
            exact last _ h5
      clear hJ6
      by_cases k1 : kd = 1
      rotate_left
      · (try simp (maxSteps := 1000000) (dsimp := false) (disch := (first | omega | (simp only [okR]; done) | (simp only [sizeR] <;> omega) | fail)) only [↓preR, postR, ↓w_stop, Nat.reduceEqDiff, Nat.reduceAdd, Nat.reduceSub, Nat.reduceMul, Int.reduceNeg, Nat.reduceLT, Int.reduceToNat, Nat.reduceLeDiff, Nat.sub_zero, e4])
        exact tail6
      have htne : qt = false → (tx = []) = False := fun hq => eq_false ((q6 k1).resolve_left (by rw [hq]; decide))
      by_cases hj0 : j = 0
      · cases hqt : qt with
        | true =>
          rw [hqt] at e4
          (try simp (maxSteps := 1000000) (dsimp := false) (disch := (first | omega | (simp only [okR]; done) | (simp only [sizeR] <;> omega) | fail)) only [↓preR, postR, ↓w_stop, Nat.reduceEqDiff, Nat.reduceAdd, Nat.reduceSub, Nat.reduceMul, Int.reduceNeg, Nat.reduceLT, Int.reduceToNat, Nat.reduceLeDiff, Nat.sub_zero, e4])
          exact tail6
        | false =>
          rw [hqt] at e4
          have hte := htne hqt
          (try simp (maxSteps := 1000000) (dsimp := false) (disch := (first | omega | (simp only [okR]; done) | (simp only [sizeR] <;> omega) | fail)) only [↓preR, postR, ↓w_stop, Nat.reduceEqDiff, Nat.reduceAdd, Nat.reduceSub, Nat.reduceMul, Int.reduceNeg, Nat.reduceLT, Int.reduceToNat, Nat.reduceLeDiff, Nat.sub_zero, e4, hte])
          exact tail6
      · obtain ⟨y, hy, _, y0, y2⟩ := hprev (by omega)
        have had := hadj _ _ hy (by rw [show j - 1 + 1 = j from by omega]; exact hx?)
        have f0 := h4.ldx y0
        have f2 := h4.ldx y2
        have hjt : ((j : Int) - 1).toNat = j - 1 := by omega
        by_cases ky : y.kind = 1
        · have kq : (y.quote == qt) = false := by
            cases he : (y.quote == qt) with
            | false => rfl
            | true => exact (had ⟨k1, ky, by show y.quote = qt; simpa using he⟩).elim
          cases hqt : qt with
          | true =>
            rw [hqt] at e4 kq
            (try simp (maxSteps := 1000000) (dsimp := false) (disch := (first | omega | (simp only [okR]; done) | (simp only [sizeR] <;> omega) | fail)) only [↓preR, postR, ↓w_stop, Nat.reduceEqDiff, Nat.reduceAdd, Nat.reduceSub, Nat.reduceMul, Int.reduceNeg, Nat.reduceLT, Int.reduceToNat, Nat.reduceLeDiff, Nat.sub_zero, e4, f0, f2, kq])
            exact tail6
          | false =>
            rw [hqt] at e4 kq
            have hte := htne hqt
            (try simp (maxSteps := 1000000) (dsimp := false) (disch := (first | omega | (simp only [okR]; done) | (simp only [sizeR] <;> omega) | fail)) only [↓preR, postR, ↓w_stop, Nat.reduceEqDiff, Nat.reduceAdd, Nat.reduceSub, Nat.reduceMul, Int.reduceNeg, Nat.reduceLT, Int.reduceToNat, Nat.reduceLeDiff, Nat.sub_zero, e4, hte, f0, f2, kq])
            exact tail6
        · cases hqt : qt with
          | true =>
            rw [hqt] at e4
            (try simp (maxSteps := 1000000) (dsimp := false) (disch := (first | omega | (simp only [okR]; done) | (simp only [sizeR] <;> omega) | fail)) only [↓preR, postR, ↓w_stop, Nat.reduceEqDiff, Nat.reduceAdd, Nat.reduceSub, Nat.reduceMul, Int.reduceNeg, Nat.reduceLT, Int.reduceToNat, Nat.reduceLeDiff, Nat.sub_zero, e4, f0])
            exact tail6
          | false =>
            rw [hqt] at e4
            have hte := htne hqt
            (try simp (maxSteps := 1000000) (dsimp := false) (disch := (first | omega | (simp only [okR]; done) | (simp only [sizeR] <;> omega) | fail)) only [↓preR, postR, ↓w_stop, Nat.reduceEqDiff, Nat.reduceAdd, Nat.reduceSub, Nat.reduceMul, Int.reduceNeg, Nat.reduceLT, Int.reduceToNat, Nat.reduceLeDiff, Nat.sub_zero, e4, hte, f0])
            exact tail6
    clear hJ5
    by_cases k2 : kd = 2
    · (try simp (maxSteps := 1000000) (dsimp := false) (disch := (first | omega | (simp only [okR]; done) | (simp only [sizeR] <;> omega) | fail)) only [↓preR, postR, ↓w_stop, Nat.reduceEqDiff, Nat.reduceAdd, Nat.reduceSub, Nat.reduceMul, Int.reduceNeg, Nat.reduceLT, Int.reduceToNat, Nat.reduceLeDiff, Nat.sub_zero, e4])
      exact tail5
    · obtain ⟨o0, c0⟩ : op = 0 ∧ cl = false := by
        rcases q5 with h | h
        · exact (k2 h).elim
        · exact h
      rw [c0] at e4
      (try simp (maxSteps := 1000000) (dsimp := false) (disch := (first | omega | (simp only [okR]; done) | (simp only [sizeR] <;> omega) | fail)) only [↓preR, postR, ↓w_stop, Nat.reduceEqDiff, Nat.reduceAdd, Nat.reduceSub, Nat.reduceMul, Int.reduceNeg, Nat.reduceLT, Int.reduceToNat, Nat.reduceLeDiff, Nat.sub_zero, e4])
      exact tail5
theorem shaped_law {σ : AS} {v0 : Value} {c : Ce} (h : Hs σ c []) (A0 : OV c (shOf Tryd.prog 8 9) v0) : kCall Tryd.prog 5 [v0] σ fun v _ => v = .bool true := by
  rw [show shOf Tryd.prog 8 9 = .str from by kernel_rfl] at A0
  obtain ⟨s, rfl, hs⟩ := arg_str A0
  unfold maxLen at hs
  refine f5 ?_
  (try simp (maxSteps := 1000000) (dsimp := false) (disch := (first | omega | (simp only [okR]; done) | (simp only [sizeR] <;> omega) | fail)) only [↓preR, postR, ↓w_stop, Nat.reduceEqDiff, Nat.reduceAdd, Nat.reduceSub, Nat.reduceMul, Int.reduceNeg, Nat.reduceLT, Int.reduceToNat, Nat.reduceLeDiff, Nat.sub_zero, F5])
  refine join_now ?_
  by_cases hl : 600 < s.length
  · (try simp (maxSteps := 1000000) (dsimp := false) (disch := (first | omega | (simp only [okR]; done) | (simp only [sizeR] <;> omega) | fail)) only [↓preR, postR, ↓w_stop, Nat.reduceEqDiff, Nat.reduceAdd, Nat.reduceSub, Nat.reduceMul, Int.reduceNeg, Nat.reduceLT, Int.reduceToNat, Nat.reduceLeDiff, Nat.sub_zero])
    refine awake_c h fun X' s1 _ h1 => ?_
    (try simp (maxSteps := 1000000) (dsimp := false) (disch := (first | omega | (simp only [okR]; done) | (simp only [sizeR] <;> omega) | fail)) only [↓preR, postR, ↓w_stop, Nat.reduceEqDiff, Nat.reduceAdd, Nat.reduceSub, Nat.reduceMul, Int.reduceNeg, Nat.reduceLT, Int.reduceToNat, Nat.reduceLeDiff, Nat.sub_zero])
  · (try simp (maxSteps := 1000000) (dsimp := false) (disch := (first | omega | (simp only [okR]; done) | (simp only [sizeR] <;> omega) | fail)) only [↓preR, postR, ↓w_stop, Nat.reduceEqDiff, Nat.reduceAdd, Nat.reduceSub, Nat.reduceMul, Int.reduceNeg, Nat.reduceLT, Int.reduceToNat, Nat.reduceLeDiff, Nat.sub_zero])
    refine parse_c h ?_ (by unfold maxLen; omega)
    have hne : ∀ e, wordW s 0 = .bad e → ¬ e = 0 := by
      intro e he
      unfold wordW at he
      split at he
      · cases he; decide
      · exact rd_ne _ _ _ _ _ (by omega) he
    have hsh : ∀ w, wordW s 0 = .ok w → ShW w := by
      intro w hw
      unfold wordW at hw
      split at hw
      · cases hw
      · exact rd_sh _ _ _ _ _ .nil hw
    cases hp : wordW s 0 with
    | ok w =>
      intro X' v s1 hX hv h1
      (try simp (maxSteps := 1000000) (dsimp := false) (disch := (first | omega | (simp only [okR]; done) | (simp only [sizeR] <;> omega) | fail)) only [↓preR, postR, ↓w_stop, Nat.reduceEqDiff, Nat.reduceAdd, Nat.reduceSub, Nat.reduceMul, Int.reduceNeg, Nat.reduceLT, Int.reduceToNat, Nat.reduceLeDiff, Nat.sub_zero])
      refine shaped_c _ (Nat.lt_succ_self _) (hsh w hp) hv h1 fun s2 h2 => ?_
      (try simp (maxSteps := 1000000) (dsimp := false) (disch := (first | omega | (simp only [okR]; done) | (simp only [sizeR] <;> omega) | fail)) only [↓preR, postR, ↓w_stop, Nat.reduceEqDiff, Nat.reduceAdd, Nat.reduceSub, Nat.reduceMul, Int.reduceNeg, Nat.reduceLT, Int.reduceToNat, Nat.reduceLeDiff, Nat.sub_zero])
      refine awake_c h2 fun X2 s3 _ h3 => ?_
      (try simp (maxSteps := 1000000) (dsimp := false) (disch := (first | omega | (simp only [okR]; done) | (simp only [sizeR] <;> omega) | fail)) only [↓preR, postR, ↓w_stop, Nat.reduceEqDiff, Nat.reduceAdd, Nat.reduceSub, Nat.reduceMul, Int.reduceNeg, Nat.reduceLT, Int.reduceToNat, Nat.reduceLeDiff, Nat.sub_zero])
    | bad e =>
      have he := hne e hp
      intro X' s1 hX h1
      have hv : RepL X' (.slice none 0 0) ([] : List Pt) := ⟨none, 0, rfl, Nat.le_refl _, Nat.zero_le _, .inl rfl⟩
      (try simp (maxSteps := 1000000) (dsimp := false) (disch := (first | omega | (simp only [okR]; done) | (simp only [sizeR] <;> omega) | fail)) only [↓preR, postR, ↓w_stop, Nat.reduceEqDiff, Nat.reduceAdd, Nat.reduceSub, Nat.reduceMul, Int.reduceNeg, Nat.reduceLT, Int.reduceToNat, Nat.reduceLeDiff, Nat.sub_zero, he])
      refine shaped_c 1 (w := []) (by simp [szW]) .nil hv h1 fun s2 h2 => ?_
      (try simp (maxSteps := 1000000) (dsimp := false) (disch := (first | omega | (simp only [okR]; done) | (simp only [sizeR] <;> omega) | fail)) only [↓preR, postR, ↓w_stop, Nat.reduceEqDiff, Nat.reduceAdd, Nat.reduceSub, Nat.reduceMul, Int.reduceNeg, Nat.reduceLT, Int.reduceToNat, Nat.reduceLeDiff, Nat.sub_zero])
      refine awake_c h2 fun X2 s3 _ h3 => ?_
      (try simp (maxSteps := 1000000) (dsimp := false) (disch := (first | omega | (simp only [okR]; done) | (simp only [sizeR] <;> omega) | fail)) only [↓preR, postR, ↓w_stop, Nat.reduceEqDiff, Nat.reduceAdd, Nat.reduceSub, Nat.reduceMul, Int.reduceNeg, Nat.reduceLT, Int.reduceToNat, Nat.reduceLeDiff, Nat.sub_zero])
end Go.Proofs.YtmgdkoidgoihfaaDoor
