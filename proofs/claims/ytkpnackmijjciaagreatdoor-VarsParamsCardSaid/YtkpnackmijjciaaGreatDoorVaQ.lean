/- Variables: what is set is kept: the law. Conditions: none. -/
import Derived.Test.YtkpnackmijjciaaGreatDoorVaP
namespace Go.Proofs.YtkpnackmijjciaaGreatDoor
open E Go.Lib
set_option linter.unusedVariables false
set_option linter.unusedSimpArgs false
set_option maxHeartbeats 1000000
set_option maxRecDepth 20000

section
variable {σ σ' : AS} {X : Ce} {R : List Ck} {k : Value → AS → Prop} {v m : Nat} {u : Value} {zero n val s : Str} {ms : List Str} {i q most : Int} {S : VM} {w st : Bool} {x' : VV} {ops : List OpV}
theorem TxS.nil : TxS σ (.slice none 0 0) [] := ⟨none, 0, rfl, .inl rfl⟩
theorem keeps_walk (h : Hs σ X R) (hr : RepL X u ops) (hn : n.length ≤ maxLen) : kCall Tryz.prog 4 [u, .string (bs n)] σ fun v _ => v = .bool true := by
  obtain ⟨a, b, o, cap, rfl, hc, hm, hat⟩ := ops_at hr
  refine f4 ?_
  unfold maxLen at hn hm
  (try simp (maxSteps := 1000000) (dsimp := false) (disch := (first | omega | (simp only [okR]; done) | (simp only [sizeR] <;> omega) | fail)) only [↓preR, postR, ↓w_stop, Nat.reduceEqDiff, Nat.reduceAdd, Nat.reduceSub, Nat.reduceMul, Int.reduceNeg, Nat.reduceLT, Int.reduceToNat, Nat.reduceLeDiff, Nat.sub_zero, F4])
  refine join_by fun J hJ => ?_
  have tail : FewP ops → n.length ≤ 200 → J [] σ := by
    intro hf hn2
    refine hJ _ _ ?_
    clear hJ
    (try simp (maxSteps := 1000000) (dsimp := false) (disch := (first | omega | (simp only [okR]; done) | (simp only [sizeR] <;> omega) | fail)) only [↓preR, postR, ↓w_stop, Nat.reduceEqDiff, Nat.reduceAdd, Nat.reduceSub, Nat.reduceMul, Int.reduceNeg, Nat.reduceLT, Int.reduceToNat, Nat.reduceLeDiff, Nat.sub_zero])
    refine vnew_c h TxS.nil (by decide) fun v s3 h3 => ?_
    (try simp (maxSteps := 1000000) (dsimp := false) (disch := (first | omega | (simp only [okR]; done) | (simp only [sizeR] <;> omega) | fail)) only [↓preR, postR, ↓w_stop, Nat.reduceEqDiff, Nat.reduceAdd, Nat.reduceSub, Nat.reduceMul, Int.reduceNeg, Nat.reduceLT, Int.reduceToNat, Nat.reduceLeDiff, Nat.sub_zero])
    refine join_now ?_
    refine loop_inv (fun nn xs s => ∃ (j : Nat) (S : VM), xs = [.string (bs (getV S.l n).val), .bool (getV S.l n).set, .int .i64 j] ∧ j ≤ ops.length ∧ InvV S j ∧ Hs s X (Vm v [115, 104] S :: R) ∧ nn = ops.length - j) _ ⟨0, s0, rfl, Nat.zero_le _, InvV.start, h3, rfl⟩ ?_
    rintro _ _ s4 again ⟨j, S, rfl, hj, hI, h4, rfl⟩ hag
    by_cases hlt : j < ops.length
    · obtain ⟨rfl, t, ht, hq, hi, hn3, hv3, c0, c1, c2, c3, c4⟩ := hat j hlt
      obtain ⟨f1, f2, f3⟩ := hf.2 _ (List.getElem_mem hlt)
      have g0 := h4.ldx c0
      have g1 := h4.ldx c1
      have g2 := h4.ldx c2
      have g3 := h4.ldx c3
      have g4 := h4.ldx c4
      obtain ⟨ta, tc, rfl, ht'⟩ := ht
      have ht : RepL X (.slice ta ops[j].2.2.2.2.length tc) ops[j].2.2.2.2 := ⟨ta, tc, rfl, ht'⟩
      have h5 := (h4.new (cs := celO 0 [] [] 0 (.slice none 0 0))).put (cs' := celO ops[j].1 ops[j].2.1 ops[j].2.2.1 ops[j].2.2.2.1 (.slice ta ops[j].2.2.2.2.length tc))
      (try simp (maxSteps := 1000000) (dsimp := false) (disch := (first | omega | (simp only [okR]; done) | (simp only [sizeR] <;> omega) | fail)) only [↓preR, postR, ↓w_stop, Nat.reduceEqDiff, Nat.reduceAdd, Nat.reduceSub, Nat.reduceMul, Int.reduceNeg, Nat.reduceLT, Int.reduceToNat, Nat.reduceLeDiff, Nat.sub_zero, g0, g1, g2, g3, g4])
      refine join_now ?_
      (try simp (maxSteps := 1000000) (dsimp := false) (disch := (first | omega | (simp only [okR]; done) | (simp only [sizeR] <;> omega) | fail)) only [↓preR, postR, ↓w_stop, Nat.reduceEqDiff, Nat.reduceAdd, Nat.reduceSub, Nat.reduceMul, Int.reduceNeg, Nat.reduceLT, Int.reduceToNat, Nat.reduceLeDiff, Nat.sub_zero, g0, g1, g2, g3, g4])
      refine join_now ?_
      (try simp (maxSteps := 1000000) (dsimp := false) (disch := (first | omega | (simp only [okR]; done) | (simp only [sizeR] <;> omega) | fail)) only [↓preR, postR, ↓w_stop, Nat.reduceEqDiff, Nat.reduceAdd, Nat.reduceSub, Nat.reduceMul, Int.reduceNeg, Nat.reduceLT, Int.reduceToNat, Nat.reduceLeDiff, Nat.sub_zero, g0, g1, g2, g3, g4])
      have hlen : S.l.length ≤ 1000000 := by have := hI.len; have := hf.1; omega
      refine all_c hI.vl hlen h5.swap fun u1 s5 h6 => ?_
      (try simp (maxSteps := 1000000) (dsimp := false) (disch := (first | omega | (simp only [okR]; done) | (simp only [sizeR] <;> omega) | fail)) only [↓preR, postR, ↓w_stop, Nat.reduceEqDiff, Nat.reduceAdd, Nat.reduceSub, Nat.reduceMul, Int.reduceNeg, Nat.reduceLT, Int.reduceToNat, Nat.reduceLeDiff, Nat.sub_zero])
      refine plain_c hI.all (by rw [all_len]; exact hlen) h6 fun u2 s6 h7 => ?_
      (try simp (maxSteps := 1000000) (dsimp := false) (disch := (first | omega | (simp only [okR]; done) | (simp only [sizeR] <;> omega) | fail)) only [↓preR, postR, ↓w_stop, Nat.reduceEqDiff, Nat.reduceAdd, Nat.reduceSub, Nat.reduceMul, Int.reduceNeg, Nat.reduceLT, Int.reduceToNat, Nat.reduceLeDiff, Nat.sub_zero])
      have hal : S.ar.length ≤ 1000000 := by have := hI.ar; omega
      refine args_c (h7.front 2 rfl) hal fun u3 s7 h8 => ?_
      have e8 := (h8.front 4 rfl).obj
      (try simp (maxSteps := 1000000) (dsimp := false) (disch := (first | omega | (simp only [okR]; done) | (simp only [sizeR] <;> omega) | fail)) only [↓preR, postR, ↓w_stop, Nat.reduceEqDiff, Nat.reduceAdd, Nat.reduceSub, Nat.reduceMul, Int.reduceNeg, Nat.reduceLT, Int.reduceToNat, Nat.reduceLeDiff, Nat.sub_zero, e8])
      refine do_c (S := S) (q := ops[j].1) (n := ops[j].2.1) (val := ops[j].2.2.1) (i := ops[j].2.2.2.1) (ms := ops[j].2.2.2.2) (h8.front 1 rfl) hq hn3 hi ht (by have := f3.1; omega) fun s8 h9 => ?_
      have ee : doV (ops[j].1, ops[j].2.1, ops[j].2.2.1, ops[j].2.2.2.1, ops[j].2.2.2.2) S = doV ops[j] S := rfl
      rw [ee] at h9 ⊢
      have hI' := hI.step (o := ops[j]) f1 f2 f3
      have pset := doV_set (S := S) (o := ops[j]) (m := n)
      have punset := doV_unset (S := S) (o := ops[j]) (m := n)
      have poth := doV_other (S := S) (o := ops[j]) (m := n)
      have perr := doV_err (S := S) (o := ops[j])
      obtain ⟨e, S', hd⟩ : ∃ e S', doV ops[j] S = (e, S') := ⟨_, _, rfl⟩
      rw [hd] at h9 hI' pset punset poth perr ⊢
      simp only at h9 hI' pset punset poth perr ⊢
      (try simp (maxSteps := 1000000) (dsimp := false) (disch := (first | omega | (simp only [okR]; done) | (simp only [sizeR] <;> omega) | fail)) only [↓preR, postR, ↓w_stop, Nat.reduceEqDiff, Nat.reduceAdd, Nat.reduceSub, Nat.reduceMul, Int.reduceNeg, Nat.reduceLT, Int.reduceToNat, Nat.reduceLeDiff, Nat.sub_zero])
      refine join_by fun J6 hJ6 => ?_
      have tail6 : ∀ s9 : AS, Hs s9 X (Vm v [115, 104] S' :: Cel s4.n (celO ops[j].1 ops[j].2.1 ops[j].2.2.1 ops[j].2.2.2.1 (.slice ta ops[j].2.2.2.2.length tc)) :: R) → J6 [] s9 := by
        intro s9 h10
        refine hJ6 _ _ ?_
        clear hJ6
        (try simp (maxSteps := 1000000) (dsimp := false) (disch := (first | omega | (simp only [okR]; done) | (simp only [sizeR] <;> omega) | fail)) only [↓preR, postR, ↓w_stop, Nat.reduceEqDiff, Nat.reduceAdd, Nat.reduceSub, Nat.reduceMul, Int.reduceNeg, Nat.reduceLT, Int.reduceToNat, Nat.reduceLeDiff, Nat.sub_zero])
        refine join_by fun J7 hJ7 => ?_
        have tail7 : ∀ (s10 : AS) (x : Str) (y : Bool), Hs s10 X (Vm v [115, 104] S' :: Cel s4.n (celO ops[j].1 ops[j].2.1 ops[j].2.2.1 ops[j].2.2.2.1 (.slice ta ops[j].2.2.2.2.length tc)) :: R) → ((e = 0 ∧ ops[j].2.1 = n ∧ kd ops[j].1 = 2) ∨ ((getV S'.l n).val = x ∧ (getV S'.l n).set = y)) → J7 [.string (bs x), .bool y] s10 := by
          intro s10 x y h11 hxy
          refine hJ7 _ _ ?_
          clear hJ7
          (try simp (maxSteps := 1000000) (dsimp := false) (disch := (first | omega | (simp only [okR]; done) | (simp only [sizeR] <;> omega) | fail)) only [↓preR, postR, ↓w_stop, Nat.reduceEqDiff, Nat.reduceAdd, Nat.reduceSub, Nat.reduceMul, Int.reduceNeg, Nat.reduceLT, Int.reduceToNat, Nat.reduceLeDiff, Nat.sub_zero])
          refine join_by fun J8 hJ8 => ?_
          have tail8 : ∀ s11 : AS, Hs s11 X (Vm v [115, 104] S' :: Cel s4.n (celO ops[j].1 ops[j].2.1 ops[j].2.2.1 ops[j].2.2.2.1 (.slice ta ops[j].2.2.2.2.length tc)) :: R) → J8 [.string (bs (getV S'.l n).val), .bool (getV S'.l n).set] s11 := by
            intro s11 h12
            refine hJ8 _ _ ?_
            clear hJ8
            (try simp (maxSteps := 1000000) (dsimp := false) (disch := (first | omega | (simp only [okR]; done) | (simp only [sizeR] <;> omega) | fail)) only [↓preR, postR, ↓w_stop, Nat.reduceEqDiff, Nat.reduceAdd, Nat.reduceSub, Nat.reduceMul, Int.reduceNeg, Nat.reduceLT, Int.reduceToNat, Nat.reduceLeDiff, Nat.sub_zero])
            refine get_c h12 fun s12 h13 => ?_
            have nx : again [.string (bs (getV S'.l n).val), .bool (getV S'.l n).set, .int .i64 ((j + 1 : Nat) : Int)] s12 := hag _ _ _ ⟨j + 1, S', rfl, hlt, hI', (h13.front 1 rfl).drop, rfl⟩ (by omega)
            cases hb : (getV S'.l n).set with
            | false =>
              rw [hb] at nx
              (try simp (maxSteps := 1000000) (dsimp := false) (disch := (first | omega | (simp only [okR]; done) | (simp only [sizeR] <;> omega) | fail)) only [↓preR, postR, ↓w_stop, Nat.reduceEqDiff, Nat.reduceAdd, Nat.reduceSub, Nat.reduceMul, Int.reduceNeg, Nat.reduceLT, Int.reduceToNat, Nat.reduceLeDiff, Nat.sub_zero, hb])
              exact nx
            | true =>
              rw [hb] at nx
              (try simp (maxSteps := 1000000) (dsimp := false) (disch := (first | omega | (simp only [okR]; done) | (simp only [sizeR] <;> omega) | fail)) only [↓preR, postR, ↓w_stop, Nat.reduceEqDiff, Nat.reduceAdd, Nat.reduceSub, Nat.reduceMul, Int.reduceNeg, Nat.reduceLT, Int.reduceToNat, Nat.reduceLeDiff, Nat.sub_zero, hb])
              exact nx
          clear hJ8
          have same8 : (getV S'.l n).val = x → (getV S'.l n).set = y → ∀ s11 : AS, Hs s11 X (Vm v [115, 104] S' :: Cel s4.n (celO ops[j].1 ops[j].2.1 ops[j].2.2.1 ops[j].2.2.2.1 (.slice ta ops[j].2.2.2.2.length tc)) :: R) → J8 [.string (bs x), .bool y] s11 := by
            intro hx hy s11 h12
            have := tail8 s11 h12
            rw [hx, hy] at this
            exact this
          by_cases he : e = 0
          rotate_left
          · (try simp (maxSteps := 1000000) (dsimp := false) (disch := (first | omega | (simp only [okR]; done) | (simp only [sizeR] <;> omega) | fail)) only [↓preR, postR, ↓w_stop, Nat.reduceEqDiff, Nat.reduceAdd, Nat.reduceSub, Nat.reduceMul, Int.reduceNeg, Nat.reduceLT, Int.reduceToNat, Nat.reduceLeDiff, Nat.sub_zero, he])
            rcases hxy with hxy | hxy
            · exact absurd hxy.1 he
            · exact same8 hxy.1 hxy.2 _ h11
          subst he
          by_cases hnm : ops[j].2.1 = n
          rotate_left
          · (try simp (maxSteps := 1000000) (dsimp := false) (disch := (first | omega | (simp only [okR]; done) | (simp only [sizeR] <;> omega) | fail)) only [↓preR, postR, ↓w_stop, Nat.reduceEqDiff, Nat.reduceAdd, Nat.reduceSub, Nat.reduceMul, Int.reduceNeg, Nat.reduceLT, Int.reduceToNat, Nat.reduceLeDiff, Nat.sub_zero, h11.obj1, hnm])
            rcases hxy with hxy | hxy
            · exact absurd hxy.2.1 hnm
            · exact same8 hxy.1 hxy.2 _ h11
          have hT : (ops[j].2.1 = n) = True := eq_true hnm
          (try simp (maxSteps := 1000000) (dsimp := false) (disch := (first | omega | (simp only [okR]; done) | (simp only [sizeR] <;> omega) | fail)) only [↓preR, postR, ↓w_stop, Nat.reduceEqDiff, Nat.reduceAdd, Nat.reduceSub, Nat.reduceMul, Int.reduceNeg, Nat.reduceLT, Int.reduceToNat, Nat.reduceLeDiff, Nat.sub_zero, h11.obj1, hT])
          refine kind_c (q := ops[j].1) (n := ops[j].2.1) (val := ops[j].2.2.1) (i := ops[j].2.2.2.1) h11 hq fun s11 h12 => ?_
          by_cases hk2 : kd ops[j].1 = 2
          · (try simp (maxSteps := 1000000) (dsimp := false) (disch := (first | omega | (simp only [okR]; done) | (simp only [sizeR] <;> omega) | fail)) only [↓preR, postR, ↓w_stop, Nat.reduceEqDiff, Nat.reduceAdd, Nat.reduceSub, Nat.reduceMul, Int.reduceNeg, Nat.reduceLT, Int.reduceToNat, Nat.reduceLeDiff, Nat.sub_zero, hk2])
            have := tail8 s11 h12
            rw [(punset rfl hnm hk2).1, (punset rfl hnm hk2).2] at this
            exact this
          · (try simp (maxSteps := 1000000) (dsimp := false) (disch := (first | omega | (simp only [okR]; done) | (simp only [sizeR] <;> omega) | fail)) only [↓preR, postR, ↓w_stop, Nat.reduceEqDiff, Nat.reduceAdd, Nat.reduceSub, Nat.reduceMul, Int.reduceNeg, Nat.reduceLT, Int.reduceToNat, Nat.reduceLeDiff, Nat.sub_zero, hk2])
            rcases hxy with hxy | hxy
            · exact absurd hxy.2.2 hk2
            · exact same8 hxy.1 hxy.2 _ h12
        clear hJ7
        have old7 : ∀ s10 : AS, Hs s10 X (Vm v [115, 104] S' :: Cel s4.n (celO ops[j].1 ops[j].2.1 ops[j].2.2.1 ops[j].2.2.2.1 (.slice ta ops[j].2.2.2.2.length tc)) :: R) → ¬ (e = 0 ∧ ops[j].2.1 = n ∧ kd ops[j].1 < 2) → J7 [.string (bs (getV S.l n).val), .bool (getV S.l n).set] s10 := by
          intro s10 h11 hno
          refine tail7 _ _ _ h11 ?_
          by_cases h2 : e = 0 ∧ ops[j].2.1 = n ∧ kd ops[j].1 = 2
          · exact .inl h2
          · refine .inr (poth fun h => ?_)
            by_cases h3 : kd ops[j].1 = 2
            · exact h2 ⟨h.1, h.2.1, h3⟩
            · exact hno ⟨h.1, h.2.1, by have := h.2.2; omega⟩
        by_cases he : e = 0
        rotate_left
        · (try simp (maxSteps := 1000000) (dsimp := false) (disch := (first | omega | (simp only [okR]; done) | (simp only [sizeR] <;> omega) | fail)) only [↓preR, postR, ↓w_stop, Nat.reduceEqDiff, Nat.reduceAdd, Nat.reduceSub, Nat.reduceMul, Int.reduceNeg, Nat.reduceLT, Int.reduceToNat, Nat.reduceLeDiff, Nat.sub_zero, he])
          exact old7 _ h10 (fun h => he h.1)
        by_cases hnm : ops[j].2.1 = n
        rotate_left
        · (try simp (maxSteps := 1000000) (dsimp := false) (disch := (first | omega | (simp only [okR]; done) | (simp only [sizeR] <;> omega) | fail)) only [↓preR, postR, ↓w_stop, Nat.reduceEqDiff, Nat.reduceAdd, Nat.reduceSub, Nat.reduceMul, Int.reduceNeg, Nat.reduceLT, Int.reduceToNat, Nat.reduceLeDiff, Nat.sub_zero, he, h10.obj1, hnm])
          exact old7 _ h10 (fun h => hnm h.2.1)
        have hT : (ops[j].2.1 = n) = True := eq_true hnm
        (try simp (maxSteps := 1000000) (dsimp := false) (disch := (first | omega | (simp only [okR]; done) | (simp only [sizeR] <;> omega) | fail)) only [↓preR, postR, ↓w_stop, Nat.reduceEqDiff, Nat.reduceAdd, Nat.reduceSub, Nat.reduceMul, Int.reduceNeg, Nat.reduceLT, Int.reduceToNat, Nat.reduceLeDiff, Nat.sub_zero, he, h10.obj1, hT])
        refine kind_c (q := ops[j].1) (n := ops[j].2.1) (val := ops[j].2.2.1) (i := ops[j].2.2.2.1) h10 hq fun s10 h11 => ?_
        by_cases hk2 : kd ops[j].1 < 2
        · (try simp (maxSteps := 1000000) (dsimp := false) (disch := (first | omega | (simp only [okR]; done) | (simp only [sizeR] <;> omega) | fail)) only [↓preR, postR, ↓w_stop, Nat.reduceEqDiff, Nat.reduceAdd, Nat.reduceSub, Nat.reduceMul, Int.reduceNeg, Nat.reduceLT, Int.reduceToNat, Nat.reduceLeDiff, Nat.sub_zero, hk2, h11.obj1])
          exact tail7 _ _ _ h11 (.inr (pset he hnm hk2))
        · (try simp (maxSteps := 1000000) (dsimp := false) (disch := (first | omega | (simp only [okR]; done) | (simp only [sizeR] <;> omega) | fail)) only [↓preR, postR, ↓w_stop, Nat.reduceEqDiff, Nat.reduceAdd, Nat.reduceSub, Nat.reduceMul, Int.reduceNeg, Nat.reduceLT, Int.reduceToNat, Nat.reduceLeDiff, Nat.sub_zero, hk2])
          exact old7 _ h11 (fun h => hk2 h.2.2)
      clear hJ6
      by_cases he : e = 0
      · (try simp (maxSteps := 1000000) (dsimp := false) (disch := (first | omega | (simp only [okR]; done) | (simp only [sizeR] <;> omega) | fail)) only [↓preR, postR, ↓w_stop, Nat.reduceEqDiff, Nat.reduceAdd, Nat.reduceSub, Nat.reduceMul, Int.reduceNeg, Nat.reduceLT, Int.reduceToNat, Nat.reduceLeDiff, Nat.sub_zero, he])
        have g5 := ((h9.front 1 rfl).drop.front 1 rfl).drop.front 1 rfl
        exact tail6 _ g5.drop
      · have eS := perr he
        subst eS
        (try simp (maxSteps := 1000000) (dsimp := false) (disch := (first | omega | (simp only [okR]; done) | (simp only [sizeR] <;> omega) | fail)) only [↓preR, postR, ↓w_stop, Nat.reduceEqDiff, Nat.reduceAdd, Nat.reduceSub, Nat.reduceMul, Int.reduceNeg, Nat.reduceLT, Int.reduceToNat, Nat.reduceLeDiff, Nat.sub_zero, he])
        refine all_c hI.vl hlen h9 fun w1 s9 k1 => ?_
        (try simp (maxSteps := 1000000) (dsimp := false) (disch := (first | omega | (simp only [okR]; done) | (simp only [sizeR] <;> omega) | fail)) only [↓preR, postR, ↓w_stop, Nat.reduceEqDiff, Nat.reduceAdd, Nat.reduceSub, Nat.reduceMul, Int.reduceNeg, Nat.reduceLT, Int.reduceToNat, Nat.reduceLeDiff, Nat.sub_zero])
        refine plain_c hI.all (by rw [all_len]; exact hlen) k1 fun w2 s10 k2 => ?_
        (try simp (maxSteps := 1000000) (dsimp := false) (disch := (first | omega | (simp only [okR]; done) | (simp only [sizeR] <;> omega) | fail)) only [↓preR, postR, ↓w_stop, Nat.reduceEqDiff, Nat.reduceAdd, Nat.reduceSub, Nat.reduceMul, Int.reduceNeg, Nat.reduceLT, Int.reduceToNat, Nat.reduceLeDiff, Nat.sub_zero])
        refine same_c (k2.front 4 rfl) ?_
        (try simp (maxSteps := 1000000) (dsimp := false) (disch := (first | omega | (simp only [okR]; done) | (simp only [sizeR] <;> omega) | fail)) only [↓preR, postR, ↓w_stop, Nat.reduceEqDiff, Nat.reduceAdd, Nat.reduceSub, Nat.reduceMul, Int.reduceNeg, Nat.reduceLT, Int.reduceToNat, Nat.reduceLeDiff, Nat.sub_zero])
        refine args_c (k2.front 2 rfl) hal fun w3 s11 k3 => ?_
        (try simp (maxSteps := 1000000) (dsimp := false) (disch := (first | omega | (simp only [okR]; done) | (simp only [sizeR] <;> omega) | fail)) only [↓preR, postR, ↓w_stop, Nat.reduceEqDiff, Nat.reduceAdd, Nat.reduceSub, Nat.reduceMul, Int.reduceNeg, Nat.reduceLT, Int.reduceToNat, Nat.reduceLeDiff, Nat.sub_zero])
        refine stexts_c (k3.front 4 rfl) ?_
        (try simp (maxSteps := 1000000) (dsimp := false) (disch := (first | omega | (simp only [okR]; done) | (simp only [sizeR] <;> omega) | fail)) only [↓preR, postR, ↓w_stop, Nat.reduceEqDiff, Nat.reduceAdd, Nat.reduceSub, Nat.reduceMul, Int.reduceNeg, Nat.reduceLT, Int.reduceToNat, Nat.reduceLeDiff, Nat.sub_zero])
        have q1 : Hs s11 X (Vm v [115, 104] S' :: StrR w3 S'.ar :: VarR w2 (allV S'.l) :: VarR w1 (allV S'.l) :: StrR u3 S'.ar :: VarR u2 (allV S'.l) :: VarR u1 (allV S'.l) :: Cel s4.n (celO ops[j].1 ops[j].2.1 ops[j].2.2.1 ops[j].2.2.2.1 (.slice ta ops[j].2.2.2.2.length tc)) :: R) := k3.front 1 rfl
        have q2 := (q1.front 1 rfl).drop
        have q3 := (q2.front 1 rfl).drop
        have q4 := (q3.front 1 rfl).drop
        have q5 := (q4.front 1 rfl).drop
        have q6 := (q5.front 1 rfl).drop
        have q7 := (q6.front 1 rfl).drop
        exact tail6 _ q7
    · (try simp (maxSteps := 1000000) (dsimp := false) (disch := (first | omega | (simp only [okR]; done) | (simp only [sizeR] <;> omega) | fail)) only [↓preR, postR, ↓w_join, Nat.reduceEqDiff, Nat.reduceAdd, Nat.reduceSub, Nat.reduceMul, Int.reduceNeg, Nat.reduceLT, Int.reduceToNat, Nat.reduceLeDiff, Nat.sub_zero])
      refine awake_c h4 fun s8 h8 => ?_
      (try simp (maxSteps := 1000000) (dsimp := false) (disch := (first | omega | (simp only [okR]; done) | (simp only [sizeR] <;> omega) | fail)) only [↓preR, postR, ↓w_join, Nat.reduceEqDiff, Nat.reduceAdd, Nat.reduceSub, Nat.reduceMul, Int.reduceNeg, Nat.reduceLT, Int.reduceToNat, Nat.reduceLeDiff, Nat.sub_zero])
  clear hJ
  (try simp (maxSteps := 1000000) (dsimp := false) (disch := (first | omega | (simp only [okR]; done) | (simp only [sizeR] <;> omega) | fail)) only [↓preR, postR, ↓w_stop, Nat.reduceEqDiff, Nat.reduceAdd, Nat.reduceSub, Nat.reduceMul, Int.reduceNeg, Nat.reduceLT, Int.reduceToNat, Nat.reduceLeDiff, Nat.sub_zero])
  refine few_c h hr (fun hf => ?_) ?_
  · by_cases hp : n.length ≤ 200
    · (try simp (maxSteps := 1000000) (dsimp := false) (disch := (first | omega | (simp only [okR]; done) | (simp only [sizeR] <;> omega) | fail)) only [↓preR, postR, ↓w_stop, Nat.reduceEqDiff, Nat.reduceAdd, Nat.reduceSub, Nat.reduceMul, Int.reduceNeg, Nat.reduceLT, Int.reduceToNat, Nat.reduceLeDiff, Nat.sub_zero])
      exact tail hf hp
    · (try simp (maxSteps := 1000000) (dsimp := false) (disch := (first | omega | (simp only [okR]; done) | (simp only [sizeR] <;> omega) | fail)) only [↓preR, postR, ↓w_stop, Nat.reduceEqDiff, Nat.reduceAdd, Nat.reduceSub, Nat.reduceMul, Int.reduceNeg, Nat.reduceLT, Int.reduceToNat, Nat.reduceLeDiff, Nat.sub_zero])
      refine awake_c h fun s5 h5 => ?_
      (try simp (maxSteps := 1000000) (dsimp := false) (disch := (first | omega | (simp only [okR]; done) | (simp only [sizeR] <;> omega) | fail)) only [↓preR, postR, ↓w_join, Nat.reduceEqDiff, Nat.reduceAdd, Nat.reduceSub, Nat.reduceMul, Int.reduceNeg, Nat.reduceLT, Int.reduceToNat, Nat.reduceLeDiff, Nat.sub_zero])
  · (try simp (maxSteps := 1000000) (dsimp := false) (disch := (first | omega | (simp only [okR]; done) | (simp only [sizeR] <;> omega) | fail)) only [↓preR, postR, ↓w_stop, Nat.reduceEqDiff, Nat.reduceAdd, Nat.reduceSub, Nat.reduceMul, Int.reduceNeg, Nat.reduceLT, Int.reduceToNat, Nat.reduceLeDiff, Nat.sub_zero])
    refine awake_c h fun s5 h5 => ?_
    (try simp (maxSteps := 1000000) (dsimp := false) (disch := (first | omega | (simp only [okR]; done) | (simp only [sizeR] <;> omega) | fail)) only [↓preR, postR, ↓w_join, Nat.reduceEqDiff, Nat.reduceAdd, Nat.reduceSub, Nat.reduceMul, Int.reduceNeg, Nat.reduceLT, Int.reduceToNat, Nat.reduceLeDiff, Nat.sub_zero])
theorem opsL {v0 : Value} {c : Ce} (A0 : OV c (shOf Tryz.prog 8 22) v0) : ∃ ops : List OpV, RepL c v0 ops := by
  rw [show shOf Tryz.prog 8 22 = .slice (.fld 1 (.int .i64) (.fld 1 .str (.fld 1 .str (.fld 1 (.int .i64) (.fld 1 (.slice .str 1) .fin))))) 5 from by kernel_rfl] at A0
  exact arg_list (α := OpV) A0
theorem keeps_law {v0 v1 : Value} {c : Ce} (h : Hs σ c []) (A0 : OV c (shOf Tryz.prog 8 22) v0) (A1 : OV c (shOf Tryz.prog 8 9) v1) :
    kCall Tryz.prog 4 [v0, v1] σ fun v _ => v = .bool true := by
  rw [show shOf Tryz.prog 8 9 = .str from by kernel_rfl] at A1
  obtain ⟨ops, h0⟩ := opsL A0
  obtain ⟨s, rfl, hs⟩ := arg_str A1
  exact keeps_walk h h0 hs
end
end Go.Proofs.YtkpnackmijjciaaGreatDoor
