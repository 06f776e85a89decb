/- Variables: what may only be read stays. Conditions: none. -/
import Derived.Test.YtkpnackmijjciaaDoorVaH
namespace Go.Proofs.YtkpnackmijjciaaDoor
open E Go.Lib
set_option linter.unusedVariables false
set_option linter.unusedSimpArgs false
set_option maxHeartbeats 1000000
set_option maxRecDepth 20000

section
variable {S : VM} {n m val : Str} {w : Bool} {x' : VV} {o : OpV} {i : Int}
/-- A variable that may only be read, as it was. -/
structure SameR (S S' : VM) (m : Str) : Prop where
  ro : (getV S'.l m).ro = true
  val : (getV S'.l m).val = (getV S.l m).val
  set : (getV S'.l m).set = (getV S.l m).set
theorem SameR.refl (h : (getV S.l m).ro = true) : SameR S S m := ⟨h, rfl, rfl⟩
theorem turnE_same (h : (getV S.l m).ro = true) (hx : n = m → w = false → x'.ro = true ∧ x'.val = (getV S.l m).val ∧ x'.set = (getV S.l m).set) : SameR S (turnE S n w x').2 m := by
  unfold turnE
  split
  · exact .refl h
  split
  · exact .refl h
  · rename_i h1 h2
    by_cases hm : m = n
    · subst hm
      rw [h] at h2
      have hw : w = false := by cases w <;> simp_all
      obtain ⟨h3, h4, h5⟩ := hx rfl hw
      have e : getV (turnV S.l m x') m = x' := by rw [get_turn, if_pos rfl, if_pos (by rw [h3]; simp)]
      exact ⟨by show (getV (turnV S.l m x') m).ro = true; rw [e]; exact h3, by show (getV (turnV S.l m x') m).val = _; rw [e]; exact h4, by show (getV (turnV S.l m x') m).set = _; rw [e]; exact h5⟩
    · have e : getV (turnV S.l n x') m = getV S.l m := by rw [get_turn, if_neg hm]
      exact ⟨by show (getV (turnV S.l n x') m).ro = true; rw [e]; exact h, by show (getV (turnV S.l n x') m).val = _; rw [e], by show (getV (turnV S.l n x') m).set = _; rw [e]⟩
theorem doV_same (h : (getV S.l m).ro = true) : SameR S (doV o S).2 m := by
  unfold doV
  split
  · exact turnE_same h (fun _ h => by cases h)
  split
  · exact turnE_same h (fun e _ => by rw [e]; exact ⟨h, rfl, rfl⟩)
  split
  · exact turnE_same h (fun e _ => by rw [e]; exact ⟨rfl, rfl, rfl⟩)
  split
  · exact ⟨h, rfl, rfl⟩
  split
  · unfold shiftV
    split
    · exact ⟨h, rfl, rfl⟩
    · exact ⟨h, rfl, rfl⟩
  split
  · exact ⟨h, rfl, rfl⟩
  · exact turnE_same h (fun _ h => by cases h)
theorem doV_15 (h : (getV S.l m).ro = true) (hn : nameB m = true) (ho : o.2.1 = m) (hk : kd o.1 < 3) : (doV o S).1 = 15 := by
  have kr := kd_rng o.1
  unfold doV
  by_cases c2 : kd o.1 = 2
  · rw [if_pos c2]
    unfold unsetV turnE
    rw [ho, hn, h]
    rfl
  · rw [if_neg c2, if_neg (by omega), if_neg (by omega), if_neg (by omega), if_neg (by omega), if_neg (by omega)]
    unfold setV turnE
    rw [ho, hn, h]
    rfl
end
abbrev s0 : VM := ⟨[], 0, []⟩
section
variable {σ σ' : AS} {X : Ce} {R : List Ck} {k : Value → AS → Prop} {v m : Nat} {u : Value} {zero n val s : Str} {ms : List Str} {i q most : Int} {S : VM} {w st : Bool} {x' : VV} {ops : List OpV}
theorem TxS.nil : TxS σ (.slice none 0 0) [] := ⟨none, 0, rfl, .inl rfl⟩
theorem reads_walk (h : Hs σ X R) (hr : RepL X u ops) (hn : n.length ≤ maxLen) (hv : val.length ≤ maxLen) : kCall Tryd.prog 3 [u, .agg [.string (bs n), .string (bs val), .bool st].toArray] σ fun v _ => v = .bool true := by
  obtain ⟨a, b, o, cap, rfl, hc, hm, hat⟩ := ops_at hr
  refine f3 ?_
  unfold maxLen at hn hv hm
  have h1 := h.new (cs := [.string (bs n), .string (bs val), .bool st])
  (try simp (maxSteps := 1000000) (dsimp := false) (disch := (first | omega | (simp only [okR]; done) | (simp only [sizeR] <;> omega) | fail)) only [↓preR, postR, ↓w_stop, Nat.reduceEqDiff, Nat.reduceAdd, Nat.reduceSub, Nat.reduceMul, Int.reduceNeg, Nat.reduceLT, Int.reduceToNat, Nat.reduceLeDiff, Nat.sub_zero, F3])
  refine join_by fun J hJ => ?_
  have tail : FewP ops → n.length ≤ 200 → ∀ s2, Hs s2 X (Cel σ.n [.string (bs n), .string (bs val), .bool st] :: R) → J [] s2 := by
    intro hf hn2 s2 h2
    refine hJ _ _ ?_
    clear hJ
    (try simp (maxSteps := 1000000) (dsimp := false) (disch := (first | omega | (simp only [okR]; done) | (simp only [sizeR] <;> omega) | fail)) only [↓preR, postR, ↓w_stop, Nat.reduceEqDiff, Nat.reduceAdd, Nat.reduceSub, Nat.reduceMul, Int.reduceNeg, Nat.reduceLT, Int.reduceToNat, Nat.reduceLeDiff, Nat.sub_zero, h2.obj])
    refine vnew_c h2 TxS.nil (by decide) fun v s3 h3 => ?_
    (try simp (maxSteps := 1000000) (dsimp := false) (disch := (first | omega | (simp only [okR]; done) | (simp only [sizeR] <;> omega) | fail)) only [↓preR, postR, ↓w_stop, Nat.reduceEqDiff, Nat.reduceAdd, Nat.reduceSub, Nat.reduceMul, Int.reduceNeg, Nat.reduceLT, Int.reduceToNat, Nat.reduceLeDiff, Nat.sub_zero, h3.obj1])
    refine join_by fun J2 hJ2 => ?_
    have tail2 : ∀ (s4 : AS) (S1 : VM), (S1 = s0 ∨ S1 = (setV s0 n val).2) → Hs s4 X (Vm v [115, 104] S1 :: Cel σ.n [.string (bs n), .string (bs val), .bool st] :: R) → J2 [] s4 := by
      intro s4 S1 hS h4
      refine hJ2 _ _ ?_
      clear hJ2
      (try simp (maxSteps := 1000000) (dsimp := false) (disch := (first | omega | (simp only [okR]; done) | (simp only [sizeR] <;> omega) | fail)) only [↓preR, postR, ↓w_stop, Nat.reduceEqDiff, Nat.reduceAdd, Nat.reduceSub, Nat.reduceMul, Int.reduceNeg, Nat.reduceLT, Int.reduceToNat, Nat.reduceLeDiff, Nat.sub_zero])
      refine get_c h4 fun s5 h5 => ?_
      (try simp (maxSteps := 1000000) (dsimp := false) (disch := (first | omega | (simp only [okR]; done) | (simp only [sizeR] <;> omega) | fail)) only [↓preR, postR, ↓w_stop, Nat.reduceEqDiff, Nat.reduceAdd, Nat.reduceSub, Nat.reduceMul, Int.reduceNeg, Nat.reduceLT, Int.reduceToNat, Nat.reduceLeDiff, Nat.sub_zero])
      cases hN : nameB n with
      | false =>
        have e1 : S1 = s0 := by
          rcases hS with hS | hS
          · exact hS
          · rw [hS]; unfold setV turnE; rw [if_pos hN]
        subst e1
        have e2 : roV s0 n = (16, s0) := by unfold roV turnE; rw [if_pos hN]
        have e3 : (getV s0.l n).set = false := rfl
        refine vro_e h5 (by unfold maxLen; omega) e2 fun s6 h6 => ?_
        (try simp (maxSteps := 1000000) (dsimp := false) (disch := (first | omega | (simp only [okR]; done) | (simp only [sizeR] <;> omega) | fail)) only [↓preR, postR, ↓w_stop, Nat.reduceEqDiff, Nat.reduceAdd, Nat.reduceSub, Nat.reduceMul, Int.reduceNeg, Nat.reduceLT, Int.reduceToNat, Nat.reduceLeDiff, Nat.sub_zero])
        refine join_now ?_
        refine loop_inv (fun nn xs s => xs = [.int .i64 0] ∧ s6 = s) 0 ⟨rfl, rfl⟩ ?_
        rintro _ _ s7 again ⟨rfl, rfl⟩ hag
        by_cases hl : 0 < ops.length
        · (try simp (maxSteps := 1000000) (dsimp := false) (disch := (first | omega | (simp only [okR]; done) | (simp only [sizeR] <;> omega) | fail)) only [↓preR, postR, ↓w_join, Nat.reduceEqDiff, Nat.reduceAdd, Nat.reduceSub, Nat.reduceMul, Int.reduceNeg, Nat.reduceLT, Int.reduceToNat, Nat.reduceLeDiff, Nat.sub_zero, e3])
          refine awake_c h6 fun s8 h8 => ?_
          (try simp (maxSteps := 1000000) (dsimp := false) (disch := (first | omega | (simp only [okR]; done) | (simp only [sizeR] <;> omega) | fail)) only [↓preR, postR, ↓w_join, Nat.reduceEqDiff, Nat.reduceAdd, Nat.reduceSub, Nat.reduceMul, Int.reduceNeg, Nat.reduceLT, Int.reduceToNat, Nat.reduceLeDiff, Nat.sub_zero])
        · (try simp (maxSteps := 1000000) (dsimp := false) (disch := (first | omega | (simp only [okR]; done) | (simp only [sizeR] <;> omega) | fail)) only [↓preR, postR, ↓w_join, Nat.reduceEqDiff, Nat.reduceAdd, Nat.reduceSub, Nat.reduceMul, Int.reduceNeg, Nat.reduceLT, Int.reduceToNat, Nat.reduceLeDiff, Nat.sub_zero, e3])
          refine awake_c h6 fun s8 h8 => ?_
          (try simp (maxSteps := 1000000) (dsimp := false) (disch := (first | omega | (simp only [okR]; done) | (simp only [sizeR] <;> omega) | fail)) only [↓preR, postR, ↓w_join, Nat.reduceEqDiff, Nat.reduceAdd, Nat.reduceSub, Nat.reduceMul, Int.reduceNeg, Nat.reduceLT, Int.reduceToNat, Nat.reduceLeDiff, Nat.sub_zero])
      | true =>
        obtain ⟨g, hg⟩ : ∃ g, getV S1.l n = g := ⟨_, rfl⟩
        have e2 : roV S1 n = (0, ⟨S1.ar, S1.st, turnV S1.l n ⟨g.val, g.set, g.exp, true⟩⟩) := by unfold roV turnE; rw [if_neg (by rw [hN]; decide), hg]; rfl
        have e4 : getV (turnV S1.l n ⟨g.val, g.set, g.exp, true⟩) n = ⟨g.val, g.set, g.exp, true⟩ := by rw [get_turn, if_pos rfl, if_pos (by simp)]
        rw [hg]
        refine vro_e h5 (by unfold maxLen; omega) e2 fun s6 h6 => ?_
        (try simp (maxSteps := 1000000) (dsimp := false) (disch := (first | omega | (simp only [okR]; done) | (simp only [sizeR] <;> omega) | fail)) only [↓preR, postR, ↓w_stop, Nat.reduceEqDiff, Nat.reduceAdd, Nat.reduceSub, Nat.reduceMul, Int.reduceNeg, Nat.reduceLT, Int.reduceToNat, Nat.reduceLeDiff, Nat.sub_zero])
        refine join_now ?_
        refine loop_inv (fun nn xs s => ∃ (j : Nat) (S : VM), xs = [.int .i64 j] ∧ j ≤ ops.length ∧ (getV S.l n).ro = true ∧ (getV S.l n).val = g.val ∧ (getV S.l n).set = g.set ∧
          Hs s X (Vm v [115, 104] S :: Cel σ.n [.string (bs n), .string (bs val), .bool st] :: R) ∧ nn = ops.length - j) _ ⟨0, _, rfl, Nat.zero_le _, by rw [e4], by rw [e4], by rw [e4], h6, rfl⟩ ?_
        rintro _ _ s7 again ⟨j, S, rfl, hj, hro, hval, hset, h7, rfl⟩ hag
        by_cases hlt : j < ops.length
        · obtain ⟨rfl, t, ht, hq, hi, hn3, hv3, c0, c1, c2, c3, c4⟩ := hat j hlt
          obtain ⟨f1, f2, f3⟩ := hf.2 _ (List.getElem_mem hlt)
          have g0 := h7.ldx c0
          have g1 := h7.ldx c1
          have g2 := h7.ldx c2
          have g3 := h7.ldx c3
          have g4 := h7.ldx c4
          (try simp (maxSteps := 1000000) (dsimp := false) (disch := (first | omega | (simp only [okR]; done) | (simp only [sizeR] <;> omega) | fail)) only [↓preR, postR, ↓w_stop, Nat.reduceEqDiff, Nat.reduceAdd, Nat.reduceSub, Nat.reduceMul, Int.reduceNeg, Nat.reduceLT, Int.reduceToNat, Nat.reduceLeDiff, Nat.sub_zero, g0, g1, g2, g3, g4])
          refine join_now ?_
          (try simp (maxSteps := 1000000) (dsimp := false) (disch := (first | omega | (simp only [okR]; done) | (simp only [sizeR] <;> omega) | fail)) only [↓preR, postR, ↓w_stop, Nat.reduceEqDiff, Nat.reduceAdd, Nat.reduceSub, Nat.reduceMul, Int.reduceNeg, Nat.reduceLT, Int.reduceToNat, Nat.reduceLeDiff, Nat.sub_zero, g0, g1, g2, g3, g4])
          refine join_now ?_
          (try simp (maxSteps := 1000000) (dsimp := false) (disch := (first | omega | (simp only [okR]; done) | (simp only [sizeR] <;> omega) | fail)) only [↓preR, postR, ↓w_stop, Nat.reduceEqDiff, Nat.reduceAdd, Nat.reduceSub, Nat.reduceMul, Int.reduceNeg, Nat.reduceLT, Int.reduceToNat, Nat.reduceLeDiff, Nat.sub_zero, g0, g1, g2, g3, g4])
          refine do_c (S := S) (q := ops[j].1) (n := ops[j].2.1) (val := ops[j].2.2.1) (i := ops[j].2.2.2.1) (ms := ops[j].2.2.2.2) h7 hq hn3 hi ht (by have := f3.1; omega) fun s8 h8 => ?_
          have ee : doV (ops[j].1, ops[j].2.1, ops[j].2.2.1, ops[j].2.2.2.1, ops[j].2.2.2.2) S = doV ops[j] S := rfl
          rw [ee] at h8 ⊢
          have hs := doV_same (o := ops[j]) hro
          have e15 : ops[j].2.1 = n → kd ops[j].1 < 3 → (doV ops[j] S).1 = 15 := fun h1 h2 => doV_15 hro hN h1 h2
          have q0 := h8.ldx c0
          have q1 := h8.ldx c1
          have q2 := h8.ldx c2
          have q3 := h8.ldx c3
          have q4 := h8.ldx c4
          (try simp (maxSteps := 1000000) (dsimp := false) (disch := (first | omega | (simp only [okR]; done) | (simp only [sizeR] <;> omega) | fail)) only [↓preR, postR, ↓w_stop, Nat.reduceEqDiff, Nat.reduceAdd, Nat.reduceSub, Nat.reduceMul, Int.reduceNeg, Nat.reduceLT, Int.reduceToNat, Nat.reduceLeDiff, Nat.sub_zero])
          refine join_by fun J7 hJ7 => ?_
          have tail3 : ∀ s9 : AS, Hs s9 X (Vm v [115, 104] (doV ops[j] S).2 :: Cel σ.n [.string (bs n), .string (bs val), .bool st] :: R) → J7 [] s9 := by
            intro s9 h9
            refine hJ7 _ _ ?_
            clear hJ7
            (try simp (maxSteps := 1000000) (dsimp := false) (disch := (first | omega | (simp only [okR]; done) | (simp only [sizeR] <;> omega) | fail)) only [↓preR, postR, ↓w_stop, Nat.reduceEqDiff, Nat.reduceAdd, Nat.reduceSub, Nat.reduceMul, Int.reduceNeg, Nat.reduceLT, Int.reduceToNat, Nat.reduceLeDiff, Nat.sub_zero])
            refine get_c h9 fun s10 h10 => ?_
            rw [hs.val, hs.set, hval, hset]
            cases hb : g.set with
            | false =>
              (try simp (maxSteps := 1000000) (dsimp := false) (disch := (first | omega | (simp only [okR]; done) | (simp only [sizeR] <;> omega) | fail)) only [↓preR, postR, ↓w_join, Nat.reduceEqDiff, Nat.reduceAdd, Nat.reduceSub, Nat.reduceMul, Int.reduceNeg, Nat.reduceLT, Int.reduceToNat, Nat.reduceLeDiff, Nat.sub_zero, hb])
              exact hag _ _ _ ⟨j + 1, _, by simp, hlt, hs.ro, hs.val.trans hval, (hs.set.trans hset), h10, rfl⟩ (by omega)
            | true =>
              (try simp (maxSteps := 1000000) (dsimp := false) (disch := (first | omega | (simp only [okR]; done) | (simp only [sizeR] <;> omega) | fail)) only [↓preR, postR, ↓w_join, Nat.reduceEqDiff, Nat.reduceAdd, Nat.reduceSub, Nat.reduceMul, Int.reduceNeg, Nat.reduceLT, Int.reduceToNat, Nat.reduceLeDiff, Nat.sub_zero, hb])
              exact hag _ _ _ ⟨j + 1, _, by simp, hlt, hs.ro, hs.val.trans hval, (hs.set.trans hset), h10, rfl⟩ (by omega)
          (try simp (maxSteps := 1000000) (dsimp := false) (disch := (first | omega | (simp only [okR]; done) | (simp only [sizeR] <;> omega) | fail)) only [↓preR, postR, ↓w_stop, Nat.reduceEqDiff, Nat.reduceAdd, Nat.reduceSub, Nat.reduceMul, Int.reduceNeg, Nat.reduceLT, Int.reduceToNat, Nat.reduceLeDiff, Nat.sub_zero, q0, q1, q2, q3, q4])
          by_cases hnm : ops[j].2.1 = n
          · have hT : (ops[j].2.1 = n) = True := eq_true hnm
            (try simp (maxSteps := 1000000) (dsimp := false) (disch := (first | omega | (simp only [okR]; done) | (simp only [sizeR] <;> omega) | fail)) only [↓preR, postR, ↓w_stop, Nat.reduceEqDiff, Nat.reduceAdd, Nat.reduceSub, Nat.reduceMul, Int.reduceNeg, Nat.reduceLT, Int.reduceToNat, Nat.reduceLeDiff, Nat.sub_zero, hT, q0, q1, q2, q3, q4])
            refine kind_c (q := ops[j].1) (n := ops[j].2.1) (val := ops[j].2.2.1) (i := ops[j].2.2.2.1) h8 hq fun s9 h9 => ?_
            by_cases hk3 : kd ops[j].1 < 3
            · rw [e15 hnm hk3]
              (try simp (maxSteps := 1000000) (dsimp := false) (disch := (first | omega | (simp only [okR]; done) | (simp only [sizeR] <;> omega) | fail)) only [↓preR, postR, ↓w_stop, Nat.reduceEqDiff, Nat.reduceAdd, Nat.reduceSub, Nat.reduceMul, Int.reduceNeg, Nat.reduceLT, Int.reduceToNat, Nat.reduceLeDiff, Nat.sub_zero, hk3])
              exact tail3 _ h9
            · (try simp (maxSteps := 1000000) (dsimp := false) (disch := (first | omega | (simp only [okR]; done) | (simp only [sizeR] <;> omega) | fail)) only [↓preR, postR, ↓w_stop, Nat.reduceEqDiff, Nat.reduceAdd, Nat.reduceSub, Nat.reduceMul, Int.reduceNeg, Nat.reduceLT, Int.reduceToNat, Nat.reduceLeDiff, Nat.sub_zero, hk3])
              exact tail3 _ h9
          · (try simp (maxSteps := 1000000) (dsimp := false) (disch := (first | omega | (simp only [okR]; done) | (simp only [sizeR] <;> omega) | fail)) only [↓preR, postR, ↓w_stop, Nat.reduceEqDiff, Nat.reduceAdd, Nat.reduceSub, Nat.reduceMul, Int.reduceNeg, Nat.reduceLT, Int.reduceToNat, Nat.reduceLeDiff, Nat.sub_zero, hnm])
            exact tail3 _ h8
        · (try simp (maxSteps := 1000000) (dsimp := false) (disch := (first | omega | (simp only [okR]; done) | (simp only [sizeR] <;> omega) | fail)) only [↓preR, postR, ↓w_join, Nat.reduceEqDiff, Nat.reduceAdd, Nat.reduceSub, Nat.reduceMul, Int.reduceNeg, Nat.reduceLT, Int.reduceToNat, Nat.reduceLeDiff, Nat.sub_zero])
          refine awake_c h7 fun s8 h8 => ?_
          (try simp (maxSteps := 1000000) (dsimp := false) (disch := (first | omega | (simp only [okR]; done) | (simp only [sizeR] <;> omega) | fail)) only [↓preR, postR, ↓w_join, Nat.reduceEqDiff, Nat.reduceAdd, Nat.reduceSub, Nat.reduceMul, Int.reduceNeg, Nat.reduceLT, Int.reduceToNat, Nat.reduceLeDiff, Nat.sub_zero])
    (try simp (maxSteps := 1000000) (dsimp := false) (disch := (first | omega | (simp only [okR]; done) | (simp only [sizeR] <;> omega) | fail)) only [↓preR, postR, ↓w_stop, Nat.reduceEqDiff, Nat.reduceAdd, Nat.reduceSub, Nat.reduceMul, Int.reduceNeg, Nat.reduceLT, Int.reduceToNat, Nat.reduceLeDiff, Nat.sub_zero, h3.obj1])
    cases st with
    | false =>
      (try simp (maxSteps := 1000000) (dsimp := false) (disch := (first | omega | (simp only [okR]; done) | (simp only [sizeR] <;> omega) | fail)) only [↓preR, postR, ↓w_stop, Nat.reduceEqDiff, Nat.reduceAdd, Nat.reduceSub, Nat.reduceMul, Int.reduceNeg, Nat.reduceLT, Int.reduceToNat, Nat.reduceLeDiff, Nat.sub_zero])
      exact tail2 _ s0 (.inl rfl) h3
    | true =>
      (try simp (maxSteps := 1000000) (dsimp := false) (disch := (first | omega | (simp only [okR]; done) | (simp only [sizeR] <;> omega) | fail)) only [↓preR, postR, ↓w_stop, Nat.reduceEqDiff, Nat.reduceAdd, Nat.reduceSub, Nat.reduceMul, Int.reduceNeg, Nat.reduceLT, Int.reduceToNat, Nat.reduceLeDiff, Nat.sub_zero, h3.obj1])
      refine set_c (S := s0) h3 (by unfold maxLen; omega) fun s4 h4 => ?_
      (try simp (maxSteps := 1000000) (dsimp := false) (disch := (first | omega | (simp only [okR]; done) | (simp only [sizeR] <;> omega) | fail)) only [↓preR, postR, ↓w_stop, Nat.reduceEqDiff, Nat.reduceAdd, Nat.reduceSub, Nat.reduceMul, Int.reduceNeg, Nat.reduceLT, Int.reduceToNat, Nat.reduceLeDiff, Nat.sub_zero])
      exact tail2 _ _ (.inr rfl) h4
  clear hJ
  (try simp (maxSteps := 1000000) (dsimp := false) (disch := (first | omega | (simp only [okR]; done) | (simp only [sizeR] <;> omega) | fail)) only [↓preR, postR, ↓w_stop, Nat.reduceEqDiff, Nat.reduceAdd, Nat.reduceSub, Nat.reduceMul, Int.reduceNeg, Nat.reduceLT, Int.reduceToNat, Nat.reduceLeDiff, Nat.sub_zero, h1.obj])
  refine few_c h1 hr (fun hf => ?_) ?_
  · by_cases hp : n.length ≤ 200
    · by_cases hp2 : val.length ≤ 200
      · (try simp (maxSteps := 1000000) (dsimp := false) (disch := (first | omega | (simp only [okR]; done) | (simp only [sizeR] <;> omega) | fail)) only [↓preR, postR, ↓w_stop, Nat.reduceEqDiff, Nat.reduceAdd, Nat.reduceSub, Nat.reduceMul, Int.reduceNeg, Nat.reduceLT, Int.reduceToNat, Nat.reduceLeDiff, Nat.sub_zero, h1.obj])
        exact tail hf hp _ h1
      · (try simp (maxSteps := 1000000) (dsimp := false) (disch := (first | omega | (simp only [okR]; done) | (simp only [sizeR] <;> omega) | fail)) only [↓preR, postR, ↓w_stop, Nat.reduceEqDiff, Nat.reduceAdd, Nat.reduceSub, Nat.reduceMul, Int.reduceNeg, Nat.reduceLT, Int.reduceToNat, Nat.reduceLeDiff, Nat.sub_zero, h1.obj])
        refine awake_c h1 fun s5 h5 => ?_
        (try simp (maxSteps := 1000000) (dsimp := false) (disch := (first | omega | (simp only [okR]; done) | (simp only [sizeR] <;> omega) | fail)) only [↓preR, postR, ↓w_join, Nat.reduceEqDiff, Nat.reduceAdd, Nat.reduceSub, Nat.reduceMul, Int.reduceNeg, Nat.reduceLT, Int.reduceToNat, Nat.reduceLeDiff, Nat.sub_zero])
    · (try simp (maxSteps := 1000000) (dsimp := false) (disch := (first | omega | (simp only [okR]; done) | (simp only [sizeR] <;> omega) | fail)) only [↓preR, postR, ↓w_stop, Nat.reduceEqDiff, Nat.reduceAdd, Nat.reduceSub, Nat.reduceMul, Int.reduceNeg, Nat.reduceLT, Int.reduceToNat, Nat.reduceLeDiff, Nat.sub_zero, h1.obj])
      refine awake_c h1 fun s5 h5 => ?_
      (try simp (maxSteps := 1000000) (dsimp := false) (disch := (first | omega | (simp only [okR]; done) | (simp only [sizeR] <;> omega) | fail)) only [↓preR, postR, ↓w_join, Nat.reduceEqDiff, Nat.reduceAdd, Nat.reduceSub, Nat.reduceMul, Int.reduceNeg, Nat.reduceLT, Int.reduceToNat, Nat.reduceLeDiff, Nat.sub_zero])
  · (try simp (maxSteps := 1000000) (dsimp := false) (disch := (first | omega | (simp only [okR]; done) | (simp only [sizeR] <;> omega) | fail)) only [↓preR, postR, ↓w_stop, Nat.reduceEqDiff, Nat.reduceAdd, Nat.reduceSub, Nat.reduceMul, Int.reduceNeg, Nat.reduceLT, Int.reduceToNat, Nat.reduceLeDiff, Nat.sub_zero, h1.obj])
    refine awake_c h1 fun s5 h5 => ?_
    (try simp (maxSteps := 1000000) (dsimp := false) (disch := (first | omega | (simp only [okR]; done) | (simp only [sizeR] <;> omega) | fail)) only [↓preR, postR, ↓w_join, Nat.reduceEqDiff, Nat.reduceAdd, Nat.reduceSub, Nat.reduceMul, Int.reduceNeg, Nat.reduceLT, Int.reduceToNat, Nat.reduceLeDiff, Nat.sub_zero])
theorem reads_law {v0 v1 : Value} {c : Ce} (h : Hs σ c []) (A0 : OV c (shOf Tryd.prog 8 22) v0) (A1 : OV c (shOf Tryd.prog 8 24) v1) :
    kCall Tryd.prog 3 [v0, v1] σ fun v _ => v = .bool true := by
  rw [show shOf Tryd.prog 8 22 = .slice (.fld 1 (.int .i64) (.fld 1 .str (.fld 1 .str (.fld 1 (.int .i64) (.fld 1 (.slice .str 1) .fin))))) 5 from by kernel_rfl] at A0
  rw [show shOf Tryd.prog 8 24 = .fld 1 .str (.fld 1 .str (.fld 1 .bool .fin)) from by kernel_rfl] at A1
  obtain ⟨ops, h0⟩ := arg_list (α := OpV) A0
  obtain ⟨⟨n, val, st⟩, cs, rfl, c1, r1, e1, ⟨f1, b1⟩, c2, r2, e2, ⟨f2, b2⟩, f3⟩ := arg_agg (α := Str × Str × Bool) A1
  have ecs : cs = [.string (bs n), .string (bs val), .bool st] := by rw [e1, e2, f1, f2, f3]; rfl
  rw [ecs]
  exact reads_walk h h0 b1 b2
end
end Go.Proofs.YtkpnackmijjciaaDoor
