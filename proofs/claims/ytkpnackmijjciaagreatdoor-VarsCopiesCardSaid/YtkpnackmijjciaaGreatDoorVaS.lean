/- Variables: a copy: the law. Conditions: none. -/
import Derived.Test.YtkpnackmijjciaaGreatDoorVaR
namespace Go.Proofs.YtkpnackmijjciaaGreatDoor
open E Go.Lib
set_option linter.unusedVariables false
set_option linter.unusedSimpArgs false
set_option maxHeartbeats 1000000
set_option maxRecDepth 20000

abbrev s1 : VM := ⟨[[97]], 0, []⟩
theorem InvV.start1 : InvV s1 0 := ⟨Nat.le_refl _, by decide, fun n x h => by cases h⟩
section
variable {σ σ' : AS} {X : Ce} {R : List Ck} {k : Value → AS → Prop} {v v2 m : Nat} {u u2 av : Value} {zero n val s : Str} {ms l : List Str} {i q most : Int} {S S2 : VM} {w en : Bool} {x' : VV} {ops more : List OpV}
theorem copies_walk (h : Hs σ X R) (hr : RepL X u ops) (hr2 : RepL X u2 more) : kCall Tryz.prog 6 [u, u2, .bool en] σ fun v _ => v = .bool true := by
  obtain ⟨a, b, o, cap, rfl, hc, hm, hat⟩ := ops_at hr
  obtain ⟨a2, b2, o2, cap2, rfl, hc2, hm2, hat2⟩ := ops_at hr2
  refine f6 ?_
  unfold maxLen at hm hm2
  (try simp (maxSteps := 1000000) (dsimp := false) (disch := (first | omega | (simp only [okR]; done) | (simp only [sizeR] <;> omega) | fail)) only [↓preR, postR, ↓w_stop, Nat.reduceEqDiff, Nat.reduceAdd, Nat.reduceSub, Nat.reduceMul, Int.reduceNeg, Nat.reduceLT, Int.reduceToNat, Nat.reduceLeDiff, Nat.sub_zero, F6])
  refine join_by fun J hJ => ?_
  have tail : FewP ops → FewP more → J [] σ := by
    intro hf hf2
    refine hJ _ _ ?_
    clear hJ
    have h1 := h.new (cs := [.string (bs [97])])
    have ht : TxS (σ.new (.cells [.string (bs [97])])) (.slice (some ⟨σ.n, 0, none⟩) 1 1) [[97]] := by
      refine ⟨_, _, rfl, .inr ⟨σ.n, 0, rfl, fun i hi => ?_⟩⟩
      rw [ld_ob, h1.obj]
      match i, hi with
      | 0, _ => exact ⟨rfl, by show 1 ≤ maxLen; decide⟩
    (try simp (maxSteps := 1000000) (dsimp := false) (disch := (first | omega | (simp only [okR]; done) | (simp only [sizeR] <;> omega) | fail)) only [↓preR, postR, ↓w_stop, Nat.reduceEqDiff, Nat.reduceAdd, Nat.reduceSub, Nat.reduceMul, Int.reduceNeg, Nat.reduceLT, Int.reduceToNat, Nat.reduceLeDiff, Nat.sub_zero])
    refine vnew_c h1 ht (by decide) fun v s3 h3 => ?_
    (try simp (maxSteps := 1000000) (dsimp := false) (disch := (first | omega | (simp only [okR]; done) | (simp only [sizeR] <;> omega) | fail)) only [↓preR, postR, ↓w_stop, Nat.reduceEqDiff, Nat.reduceAdd, Nat.reduceSub, Nat.reduceMul, Int.reduceNeg, Nat.reduceLT, Int.reduceToNat, Nat.reduceLeDiff, Nat.sub_zero])
    refine join_now ?_
    refine loop_inv (fun nn xs s => ∃ (j : Nat) (S : VM), xs = [.int .i64 j] ∧ j ≤ ops.length ∧ InvV S j ∧ Hs s X (Vm v [115, 104] S :: Cel σ.n [.string (bs [97])] :: R) ∧ nn = ops.length - j) _ ⟨0, s1, rfl, Nat.zero_le _, InvV.start1, h3, rfl⟩ ?_
    rintro _ _ s4 again ⟨j, S, rfl, hj, hI, h4, rfl⟩ hag
    by_cases hlt : j < ops.length
    · obtain ⟨rfl, t, ht, hq, hi, hn3, hv3, c0, c1, c2, c3, c4⟩ := hat j hlt
      obtain ⟨f1, f2, f3⟩ := hf.2 _ (List.getElem_mem hlt)
      have g0 := h4.ldx c0
      have g1 := h4.ldx c1
      have g2 := h4.ldx c2
      have g3 := h4.ldx c3
      have g4 := h4.ldx c4
      (simp (maxSteps := 1000000) (dsimp := false) (disch := (first | omega | (simp only [okR]; done) | (simp only [sizeR] <;> omega) | fail)) only [↓preR, postR, ↓w_join, Nat.reduceEqDiff, Nat.reduceAdd, Nat.reduceSub, Nat.reduceMul, Int.reduceNeg, Nat.reduceLT, Int.reduceToNat, Nat.reduceLeDiff, Nat.sub_zero, g0, g1, g2, g3, g4])
      refine do_c (S := S) (q := ops[j].1) (n := ops[j].2.1) (val := ops[j].2.2.1) (i := ops[j].2.2.2.1) (ms := ops[j].2.2.2.2) h4 hq hn3 hi ht (by have := f3.1; omega) fun s8 h9 => ?_
      (try simp (maxSteps := 1000000) (dsimp := false) (disch := (first | omega | (simp only [okR]; done) | (simp only [sizeR] <;> omega) | fail)) only [↓preR, postR, ↓w_join, Nat.reduceEqDiff, Nat.reduceAdd, Nat.reduceSub, Nat.reduceMul, Int.reduceNeg, Nat.reduceLT, Int.reduceToNat, Nat.reduceLeDiff, Nat.sub_zero])
      exact hag _ _ _ ⟨j + 1, _, by simp, hlt, hI.step (o := ops[j]) f1 f2 f3, h9, rfl⟩ (by omega)
    · clear hag
      have ej : j = ops.length := by omega
      subst ej
      have hlen : S.l.length ≤ 1000000 := by have := hI.len; have := hf.1; omega
      have hal : S.ar.length ≤ 1000000 := by have := hI.ar; omega
      have hpl : (allV S.l).length ≤ 1000000 := by rw [all_len]; exact hlen
      (try simp (maxSteps := 1000000) (dsimp := false) (disch := (first | omega | (simp only [okR]; done) | (simp only [sizeR] <;> omega) | fail)) only [↓preR, postR, ↓w_stop, Nat.reduceEqDiff, Nat.reduceAdd, Nat.reduceSub, Nat.reduceMul, Int.reduceNeg, Nat.reduceLT, Int.reduceToNat, Nat.reduceLeDiff, Nat.sub_zero])
      refine join_now ?_
      (try simp (maxSteps := 1000000) (dsimp := false) (disch := (first | omega | (simp only [okR]; done) | (simp only [sizeR] <;> omega) | fail)) only [↓preR, postR, ↓w_stop, Nat.reduceEqDiff, Nat.reduceAdd, Nat.reduceSub, Nat.reduceMul, Int.reduceNeg, Nat.reduceLT, Int.reduceToNat, Nat.reduceLeDiff, Nat.sub_zero])
      refine copy_c h4 hal fun v' s5 h5 => ?_
      (try simp (maxSteps := 1000000) (dsimp := false) (disch := (first | omega | (simp only [okR]; done) | (simp only [sizeR] <;> omega) | fail)) only [↓preR, postR, ↓w_stop, Nat.reduceEqDiff, Nat.reduceAdd, Nat.reduceSub, Nat.reduceMul, Int.reduceNeg, Nat.reduceLT, Int.reduceToNat, Nat.reduceLeDiff, Nat.sub_zero])
      refine join_now ?_
      (try simp (maxSteps := 1000000) (dsimp := false) (disch := (first | omega | (simp only [okR]; done) | (simp only [sizeR] <;> omega) | fail)) only [↓preR, postR, ↓w_stop, Nat.reduceEqDiff, Nat.reduceAdd, Nat.reduceSub, Nat.reduceMul, Int.reduceNeg, Nat.reduceLT, Int.reduceToNat, Nat.reduceLeDiff, Nat.sub_zero])
      refine join_by fun J4 hJ4 => ?_
      have tail4 : ∀ (s6 : AS) (R' : List Ck), Hs s6 X (Vm v' [115, 104] S :: Vm v [115, 104] S :: R') → J4 [] s6 := by
        intro s6 R' h6
        refine hJ4 _ _ ?_
        clear hJ4
        (try simp (maxSteps := 1000000) (dsimp := false) (disch := (first | omega | (simp only [okR]; done) | (simp only [sizeR] <;> omega) | fail)) only [↓preR, postR, ↓w_stop, Nat.reduceEqDiff, Nat.reduceAdd, Nat.reduceSub, Nat.reduceMul, Int.reduceNeg, Nat.reduceLT, Int.reduceToNat, Nat.reduceLeDiff, Nat.sub_zero])
        refine join_by fun J5 hJ5 => ?_
        have tail5 : ∀ (p1 p2 : Nat) (s7 : AS) (R' : List Ck), Hs s7 X (Vm p1 [115, 104] S :: Vm p2 [115, 104] S :: R') → J5 [pv p1, pv p2] s7 := by
          intro p1 p2 s7 R' h7
          refine hJ5 _ _ ?_
          clear hJ5
          (try simp (maxSteps := 1000000) (dsimp := false) (disch := (first | omega | (simp only [okR]; done) | (simp only [sizeR] <;> omega) | fail)) only [↓preR, postR, ↓w_stop, Nat.reduceEqDiff, Nat.reduceAdd, Nat.reduceSub, Nat.reduceMul, Int.reduceNeg, Nat.reduceLT, Int.reduceToNat, Nat.reduceLeDiff, Nat.sub_zero])
          refine all_c hI.vl hlen h7.swap fun w1 s8 k1 => ?_
          (try simp (maxSteps := 1000000) (dsimp := false) (disch := (first | omega | (simp only [okR]; done) | (simp only [sizeR] <;> omega) | fail)) only [↓preR, postR, ↓w_stop, Nat.reduceEqDiff, Nat.reduceAdd, Nat.reduceSub, Nat.reduceMul, Int.reduceNeg, Nat.reduceLT, Int.reduceToNat, Nat.reduceLeDiff, Nat.sub_zero])
          refine plain_c hI.all hpl k1 fun w2 s9 k2 => ?_
          (try simp (maxSteps := 1000000) (dsimp := false) (disch := (first | omega | (simp only [okR]; done) | (simp only [sizeR] <;> omega) | fail)) only [↓preR, postR, ↓w_stop, Nat.reduceEqDiff, Nat.reduceAdd, Nat.reduceSub, Nat.reduceMul, Int.reduceNeg, Nat.reduceLT, Int.reduceToNat, Nat.reduceLeDiff, Nat.sub_zero])
          refine args_c (k2.front 2 rfl) hal fun w3 s10 k3 => ?_
          (try simp (maxSteps := 1000000) (dsimp := false) (disch := (first | omega | (simp only [okR]; done) | (simp only [sizeR] <;> omega) | fail)) only [↓preR, postR, ↓w_stop, Nat.reduceEqDiff, Nat.reduceAdd, Nat.reduceSub, Nat.reduceMul, Int.reduceNeg, Nat.reduceLT, Int.reduceToNat, Nat.reduceLeDiff, Nat.sub_zero])
          refine status_c (k3.front 1 rfl) ?_
          (try simp (maxSteps := 1000000) (dsimp := false) (disch := (first | omega | (simp only [okR]; done) | (simp only [sizeR] <;> omega) | fail)) only [↓preR, postR, ↓w_stop, Nat.reduceEqDiff, Nat.reduceAdd, Nat.reduceSub, Nat.reduceMul, Int.reduceNeg, Nat.reduceLT, Int.reduceToNat, Nat.reduceLeDiff, Nat.sub_zero])
          refine join_now ?_
          have k4 : Hs s10 X (Vm p1 [115, 104] S :: StrR w3 S.ar :: Vm p2 [115, 104] S :: VarR w2 (allV S.l) :: VarR w1 (allV S.l) :: R') := k3.front 4 rfl
          refine loop_inv (fun nn xs s => ∃ (j : Nat) (S2 : VM), xs = [.int .i64 j] ∧ j ≤ more.length ∧ InvV S2 (ops.length + j) ∧ Hs s X (Vm p1 [115, 104] S2 :: StrR w3 S.ar :: Vm p2 [115, 104] S :: VarR w2 (allV S.l) :: VarR w1 (allV S.l) :: R') ∧ nn = more.length - j) _ ⟨0, S, rfl, Nat.zero_le _, hI, k4, rfl⟩ ?_
          rintro _ _ s11 again ⟨j, S2, rfl, hj, hI2, k5, rfl⟩ hag
          by_cases hlt : j < more.length
          · obtain ⟨rfl, t, ht, hq, hi, hn3, hv3, c0, c1, c2, c3, c4⟩ := hat2 j hlt
            obtain ⟨f1, f2, f3⟩ := hf2.2 _ (List.getElem_mem hlt)
            have g0 := k5.ldx c0
            have g1 := k5.ldx c1
            have g2 := k5.ldx c2
            have g3 := k5.ldx c3
            have g4 := k5.ldx c4
            (simp (maxSteps := 1000000) (dsimp := false) (disch := (first | omega | (simp only [okR]; done) | (simp only [sizeR] <;> omega) | fail)) only [↓preR, postR, ↓w_join, Nat.reduceEqDiff, Nat.reduceAdd, Nat.reduceSub, Nat.reduceMul, Int.reduceNeg, Nat.reduceLT, Int.reduceToNat, Nat.reduceLeDiff, Nat.sub_zero, g0, g1, g2, g3, g4])
            refine do_c (S := S2) (q := more[j].1) (n := more[j].2.1) (val := more[j].2.2.1) (i := more[j].2.2.2.1) (ms := more[j].2.2.2.2) k5 hq hn3 hi ht (by have := f3.1; omega) fun s12 k6 => ?_
            (try simp (maxSteps := 1000000) (dsimp := false) (disch := (first | omega | (simp only [okR]; done) | (simp only [sizeR] <;> omega) | fail)) only [↓preR, postR, ↓w_join, Nat.reduceEqDiff, Nat.reduceAdd, Nat.reduceSub, Nat.reduceMul, Int.reduceNeg, Nat.reduceLT, Int.reduceToNat, Nat.reduceLeDiff, Nat.sub_zero])
            exact hag _ _ _ ⟨j + 1, _, by simp, hlt, hI2.step (o := more[j]) f1 f2 f3, k6, rfl⟩ (by omega)
          · clear hag
            (try simp (maxSteps := 1000000) (dsimp := false) (disch := (first | omega | (simp only [okR]; done) | (simp only [sizeR] <;> omega) | fail)) only [↓preR, postR, ↓w_stop, Nat.reduceEqDiff, Nat.reduceAdd, Nat.reduceSub, Nat.reduceMul, Int.reduceNeg, Nat.reduceLT, Int.reduceToNat, Nat.reduceLeDiff, Nat.sub_zero])
            refine join_now ?_
            (try simp (maxSteps := 1000000) (dsimp := false) (disch := (first | omega | (simp only [okR]; done) | (simp only [sizeR] <;> omega) | fail)) only [↓preR, postR, ↓w_stop, Nat.reduceEqDiff, Nat.reduceAdd, Nat.reduceSub, Nat.reduceMul, Int.reduceNeg, Nat.reduceLT, Int.reduceToNat, Nat.reduceLeDiff, Nat.sub_zero])
            have hal2 : S2.ar.length ≤ 1000000 := by have := hI2.ar; omega
            refine args_c k5 hal2 fun w4 s12 k6 => ?_
            (try simp (maxSteps := 1000000) (dsimp := false) (disch := (first | omega | (simp only [okR]; done) | (simp only [sizeR] <;> omega) | fail)) only [↓preR, postR, ↓w_stop, Nat.reduceEqDiff, Nat.reduceAdd, Nat.reduceSub, Nat.reduceMul, Int.reduceNeg, Nat.reduceLT, Int.reduceToNat, Nat.reduceLeDiff, Nat.sub_zero])
            refine join_by fun J7 hJ7 => ?_
            have tail7 : ∀ (s13 : AS) (R' : List Ck), Hs s13 X (StrR w3 S.ar :: Vm p2 [115, 104] S :: VarR w2 (allV S.l) :: R') → J7 [] s13 := by
              intro s13 R' k7
              refine hJ7 _ _ ?_
              clear hJ7
              (try simp (maxSteps := 1000000) (dsimp := false) (disch := (first | omega | (simp only [okR]; done) | (simp only [sizeR] <;> omega) | fail)) only [↓preR, postR, ↓w_stop, Nat.reduceEqDiff, Nat.reduceAdd, Nat.reduceSub, Nat.reduceMul, Int.reduceNeg, Nat.reduceLT, Int.reduceToNat, Nat.reduceLeDiff, Nat.sub_zero])
              refine param0_c k7.swap fun s14 k8 => ?_
              (try simp (maxSteps := 1000000) (dsimp := false) (disch := (first | omega | (simp only [okR]; done) | (simp only [sizeR] <;> omega) | fail)) only [↓preR, postR, ↓w_stop, Nat.reduceEqDiff, Nat.reduceAdd, Nat.reduceSub, Nat.reduceMul, Int.reduceNeg, Nat.reduceLT, Int.reduceToNat, Nat.reduceLeDiff, Nat.sub_zero])
              refine all_c hI.vl hlen k8 fun w5 s15 k9 => ?_
              (try simp (maxSteps := 1000000) (dsimp := false) (disch := (first | omega | (simp only [okR]; done) | (simp only [sizeR] <;> omega) | fail)) only [↓preR, postR, ↓w_stop, Nat.reduceEqDiff, Nat.reduceAdd, Nat.reduceSub, Nat.reduceMul, Int.reduceNeg, Nat.reduceLT, Int.reduceToNat, Nat.reduceLeDiff, Nat.sub_zero])
              refine plain_c hI.all hpl k9 fun w6 s16 k10 => ?_
              (try simp (maxSteps := 1000000) (dsimp := false) (disch := (first | omega | (simp only [okR]; done) | (simp only [sizeR] <;> omega) | fail)) only [↓preR, postR, ↓w_stop, Nat.reduceEqDiff, Nat.reduceAdd, Nat.reduceSub, Nat.reduceMul, Int.reduceNeg, Nat.reduceLT, Int.reduceToNat, Nat.reduceLeDiff, Nat.sub_zero])
              have k11 : Hs s16 X (VarR w6 (allV S.l) :: VarR w2 (allV S.l) :: VarR w5 (allV S.l) :: Vm p2 [115, 104] S :: StrR w3 S.ar :: R') := (k10.front 4 rfl).swap
              refine same_c k11 ?_
              (try simp (maxSteps := 1000000) (dsimp := false) (disch := (first | omega | (simp only [okR]; done) | (simp only [sizeR] <;> omega) | fail)) only [↓preR, postR, ↓w_stop, Nat.reduceEqDiff, Nat.reduceAdd, Nat.reduceSub, Nat.reduceMul, Int.reduceNeg, Nat.reduceLT, Int.reduceToNat, Nat.reduceLeDiff, Nat.sub_zero])
              refine args_c (k11.front 3 rfl) hal fun w7 s17 k12 => ?_
              (try simp (maxSteps := 1000000) (dsimp := false) (disch := (first | omega | (simp only [okR]; done) | (simp only [sizeR] <;> omega) | fail)) only [↓preR, postR, ↓w_stop, Nat.reduceEqDiff, Nat.reduceAdd, Nat.reduceSub, Nat.reduceMul, Int.reduceNeg, Nat.reduceLT, Int.reduceToNat, Nat.reduceLeDiff, Nat.sub_zero])
              have k13 : Hs s17 X (StrR w7 S.ar :: StrR w3 S.ar :: Vm p2 [115, 104] S :: VarR w6 (allV S.l) :: VarR w2 (allV S.l) :: VarR w5 (allV S.l) :: R') := (k12.front 5 rfl).swap
              refine stexts_c k13 ?_
              (try simp (maxSteps := 1000000) (dsimp := false) (disch := (first | omega | (simp only [okR]; done) | (simp only [sizeR] <;> omega) | fail)) only [↓preR, postR, ↓w_stop, Nat.reduceEqDiff, Nat.reduceAdd, Nat.reduceSub, Nat.reduceMul, Int.reduceNeg, Nat.reduceLT, Int.reduceToNat, Nat.reduceLeDiff, Nat.sub_zero])
              refine status_c (k13.front 2 rfl) ?_
              (try simp (maxSteps := 1000000) (dsimp := false) (disch := (first | omega | (simp only [okR]; done) | (simp only [sizeR] <;> omega) | fail)) only [↓preR, postR, ↓w_stop, Nat.reduceEqDiff, Nat.reduceAdd, Nat.reduceSub, Nat.reduceMul, Int.reduceNeg, Nat.reduceLT, Int.reduceToNat, Nat.reduceLeDiff, Nat.sub_zero])
              refine awake_c k13 fun s18 k14 => ?_
              (try simp (maxSteps := 1000000) (dsimp := false) (disch := (first | omega | (simp only [okR]; done) | (simp only [sizeR] <;> omega) | fail)) only [↓preR, postR, ↓w_join, Nat.reduceEqDiff, Nat.reduceAdd, Nat.reduceSub, Nat.reduceMul, Int.reduceNeg, Nat.reduceLT, Int.reduceToNat, Nat.reduceLeDiff, Nat.sub_zero])
            clear hJ7
            rcases StrR.cel k6 with ⟨rfl, e6⟩ | ⟨g, o6, cap6, cs, rfl, h6a, h6b, h6c, k7⟩
            · refine loop_inv (fun nn xs s => xs = [.int .i64 0] ∧ s12 = s) 0 ⟨rfl, rfl⟩ ?_
              rintro _ _ s13 again ⟨rfl, rfl⟩ hag
              (try simp (maxSteps := 1000000) (dsimp := false) (disch := (first | omega | (simp only [okR]; done) | (simp only [sizeR] <;> omega) | fail)) only [↓preR, postR, ↓w_join, Nat.reduceEqDiff, Nat.reduceAdd, Nat.reduceSub, Nat.reduceMul, Int.reduceNeg, Nat.reduceLT, Int.reduceToNat, Nat.reduceLeDiff, Nat.sub_zero])
              exact tail7 _ _ ((k6.drop).drop)
            · unfold maxLen at h6b
              refine loop_inv (fun nn xs s => ∃ (j : Nat) (cs : List Value), xs = [.int .i64 j] ∧ j ≤ S2.ar.length ∧ o6 + cap6 ≤ cs.length ∧ Hs s X (Cel g cs :: Vm p1 [115, 104] S2 :: StrR w3 S.ar :: Vm p2 [115, 104] S :: VarR w2 (allV S.l) :: VarR w1 (allV S.l) :: R') ∧ nn = S2.ar.length - j) _ ⟨0, cs, rfl, Nat.zero_le _, h6c, k7, rfl⟩ ?_
              rintro _ _ s13 again ⟨j, cs, rfl, hj, hcs, k8, rfl⟩ hag
              by_cases hlt : j < S2.ar.length
              · (simp (maxSteps := 1000000) (dsimp := false) (disch := (first | omega | (simp only [okR]; done) | (simp only [sizeR] <;> omega) | fail)) only [↓preR, postR, ↓w_join, Nat.reduceEqDiff, Nat.reduceAdd, Nat.reduceSub, Nat.reduceMul, Int.reduceNeg, Nat.reduceLT, Int.reduceToNat, Nat.reduceLeDiff, Nat.sub_zero, k8.obj])
                refine hag _ _ _ ⟨j + 1, _, by simp, hlt, ?_, k8.put, rfl⟩ (by omega)
                simp; omega
              · (try simp (maxSteps := 1000000) (dsimp := false) (disch := (first | omega | (simp only [okR]; done) | (simp only [sizeR] <;> omega) | fail)) only [↓preR, postR, ↓w_join, Nat.reduceEqDiff, Nat.reduceAdd, Nat.reduceSub, Nat.reduceMul, Int.reduceNeg, Nat.reduceLT, Int.reduceToNat, Nat.reduceLeDiff, Nat.sub_zero])
                exact tail7 _ _ ((k8.drop).drop)
        clear hJ5
        cases en with
        | false =>
          (try simp (maxSteps := 1000000) (dsimp := false) (disch := (first | omega | (simp only [okR]; done) | (simp only [sizeR] <;> omega) | fail)) only [↓preR, postR, ↓w_stop, Nat.reduceEqDiff, Nat.reduceAdd, Nat.reduceSub, Nat.reduceMul, Int.reduceNeg, Nat.reduceLT, Int.reduceToNat, Nat.reduceLeDiff, Nat.sub_zero])
          exact tail5 v v' _ R' h6.swap
        | true =>
          (try simp (maxSteps := 1000000) (dsimp := false) (disch := (first | omega | (simp only [okR]; done) | (simp only [sizeR] <;> omega) | fail)) only [↓preR, postR, ↓w_stop, Nat.reduceEqDiff, Nat.reduceAdd, Nat.reduceSub, Nat.reduceMul, Int.reduceNeg, Nat.reduceLT, Int.reduceToNat, Nat.reduceLeDiff, Nat.sub_zero])
          exact tail5 v' v _ R' h6
      clear hJ4
      refine all_c hI.vl hlen h5.swap fun w1 s6 k1 => ?_
      (try simp (maxSteps := 1000000) (dsimp := false) (disch := (first | omega | (simp only [okR]; done) | (simp only [sizeR] <;> omega) | fail)) only [↓preR, postR, ↓w_stop, Nat.reduceEqDiff, Nat.reduceAdd, Nat.reduceSub, Nat.reduceMul, Int.reduceNeg, Nat.reduceLT, Int.reduceToNat, Nat.reduceLeDiff, Nat.sub_zero])
      refine plain_c hI.all hpl k1 fun w2 s7 k2 => ?_
      (try simp (maxSteps := 1000000) (dsimp := false) (disch := (first | omega | (simp only [okR]; done) | (simp only [sizeR] <;> omega) | fail)) only [↓preR, postR, ↓w_stop, Nat.reduceEqDiff, Nat.reduceAdd, Nat.reduceSub, Nat.reduceMul, Int.reduceNeg, Nat.reduceLT, Int.reduceToNat, Nat.reduceLeDiff, Nat.sub_zero])
      refine all_c hI.vl hlen (k2.front 3 rfl) fun w3 s8 k3 => ?_
      (try simp (maxSteps := 1000000) (dsimp := false) (disch := (first | omega | (simp only [okR]; done) | (simp only [sizeR] <;> omega) | fail)) only [↓preR, postR, ↓w_stop, Nat.reduceEqDiff, Nat.reduceAdd, Nat.reduceSub, Nat.reduceMul, Int.reduceNeg, Nat.reduceLT, Int.reduceToNat, Nat.reduceLeDiff, Nat.sub_zero])
      refine plain_c hI.all hpl k3 fun w4 s9 k4 => ?_
      (try simp (maxSteps := 1000000) (dsimp := false) (disch := (first | omega | (simp only [okR]; done) | (simp only [sizeR] <;> omega) | fail)) only [↓preR, postR, ↓w_stop, Nat.reduceEqDiff, Nat.reduceAdd, Nat.reduceSub, Nat.reduceMul, Int.reduceNeg, Nat.reduceLT, Int.reduceToNat, Nat.reduceLeDiff, Nat.sub_zero])
      have k5 : Hs s9 X (VarR w2 (allV S.l) :: VarR w4 (allV S.l) :: VarR w3 (allV S.l) :: Vm v' [115, 104] S :: VarR w1 (allV S.l) :: Vm v [115, 104] S :: Cel σ.n [.string (bs [97])] :: R) := k4.front 3 rfl
      refine same_c k5 ?_
      (try simp (maxSteps := 1000000) (dsimp := false) (disch := (first | omega | (simp only [okR]; done) | (simp only [sizeR] <;> omega) | fail)) only [↓preR, postR, ↓w_stop, Nat.reduceEqDiff, Nat.reduceAdd, Nat.reduceSub, Nat.reduceMul, Int.reduceNeg, Nat.reduceLT, Int.reduceToNat, Nat.reduceLeDiff, Nat.sub_zero])
      refine args_c (k5.front 5 rfl) hal fun w5 s10 k6 => ?_
      (try simp (maxSteps := 1000000) (dsimp := false) (disch := (first | omega | (simp only [okR]; done) | (simp only [sizeR] <;> omega) | fail)) only [↓preR, postR, ↓w_stop, Nat.reduceEqDiff, Nat.reduceAdd, Nat.reduceSub, Nat.reduceMul, Int.reduceNeg, Nat.reduceLT, Int.reduceToNat, Nat.reduceLeDiff, Nat.sub_zero])
      refine args_c (k6.front 5 rfl) hal fun w6 s11 k7 => ?_
      (try simp (maxSteps := 1000000) (dsimp := false) (disch := (first | omega | (simp only [okR]; done) | (simp only [sizeR] <;> omega) | fail)) only [↓preR, postR, ↓w_stop, Nat.reduceEqDiff, Nat.reduceAdd, Nat.reduceSub, Nat.reduceMul, Int.reduceNeg, Nat.reduceLT, Int.reduceToNat, Nat.reduceLeDiff, Nat.sub_zero])
      have k8 : Hs s11 X (StrR w5 S.ar :: StrR w6 S.ar :: Vm v' [115, 104] S :: Vm v [115, 104] S :: VarR w2 (allV S.l) :: VarR w4 (allV S.l) :: VarR w3 (allV S.l) :: VarR w1 (allV S.l) :: Cel σ.n [.string (bs [97])] :: R) := k7.front 2 rfl
      refine stexts_c k8 ?_
      (try simp (maxSteps := 1000000) (dsimp := false) (disch := (first | omega | (simp only [okR]; done) | (simp only [sizeR] <;> omega) | fail)) only [↓preR, postR, ↓w_stop, Nat.reduceEqDiff, Nat.reduceAdd, Nat.reduceSub, Nat.reduceMul, Int.reduceNeg, Nat.reduceLT, Int.reduceToNat, Nat.reduceLeDiff, Nat.sub_zero])
      refine status_c (k8.front 3 rfl) ?_
      (try simp (maxSteps := 1000000) (dsimp := false) (disch := (first | omega | (simp only [okR]; done) | (simp only [sizeR] <;> omega) | fail)) only [↓preR, postR, ↓w_stop, Nat.reduceEqDiff, Nat.reduceAdd, Nat.reduceSub, Nat.reduceMul, Int.reduceNeg, Nat.reduceLT, Int.reduceToNat, Nat.reduceLeDiff, Nat.sub_zero])
      refine status_c (k8.front 2 rfl) ?_
      (try simp (maxSteps := 1000000) (dsimp := false) (disch := (first | omega | (simp only [okR]; done) | (simp only [sizeR] <;> omega) | fail)) only [↓preR, postR, ↓w_stop, Nat.reduceEqDiff, Nat.reduceAdd, Nat.reduceSub, Nat.reduceMul, Int.reduceNeg, Nat.reduceLT, Int.reduceToNat, Nat.reduceLeDiff, Nat.sub_zero])
      exact tail4 _ _ ((k8.front 3 rfl).front 3 rfl)
  clear hJ
  (try simp (maxSteps := 1000000) (dsimp := false) (disch := (first | omega | (simp only [okR]; done) | (simp only [sizeR] <;> omega) | fail)) only [↓preR, postR, ↓w_stop, Nat.reduceEqDiff, Nat.reduceAdd, Nat.reduceSub, Nat.reduceMul, Int.reduceNeg, Nat.reduceLT, Int.reduceToNat, Nat.reduceLeDiff, Nat.sub_zero])
  refine few_c h hr (fun hf => ?_) ?_
  · (try simp (maxSteps := 1000000) (dsimp := false) (disch := (first | omega | (simp only [okR]; done) | (simp only [sizeR] <;> omega) | fail)) only [↓preR, postR, ↓w_stop, Nat.reduceEqDiff, Nat.reduceAdd, Nat.reduceSub, Nat.reduceMul, Int.reduceNeg, Nat.reduceLT, Int.reduceToNat, Nat.reduceLeDiff, Nat.sub_zero])
    refine few_c h hr2 (fun hf2 => ?_) ?_
    · (try simp (maxSteps := 1000000) (dsimp := false) (disch := (first | omega | (simp only [okR]; done) | (simp only [sizeR] <;> omega) | fail)) only [↓preR, postR, ↓w_stop, Nat.reduceEqDiff, Nat.reduceAdd, Nat.reduceSub, Nat.reduceMul, Int.reduceNeg, Nat.reduceLT, Int.reduceToNat, Nat.reduceLeDiff, Nat.sub_zero])
      exact tail hf hf2
    · (try simp (maxSteps := 1000000) (dsimp := false) (disch := (first | omega | (simp only [okR]; done) | (simp only [sizeR] <;> omega) | fail)) only [↓preR, postR, ↓w_stop, Nat.reduceEqDiff, Nat.reduceAdd, Nat.reduceSub, Nat.reduceMul, Int.reduceNeg, Nat.reduceLT, Int.reduceToNat, Nat.reduceLeDiff, Nat.sub_zero])
      refine awake_c h fun s5 h5 => ?_
      (try simp (maxSteps := 1000000) (dsimp := false) (disch := (first | omega | (simp only [okR]; done) | (simp only [sizeR] <;> omega) | fail)) only [↓preR, postR, ↓w_join, Nat.reduceEqDiff, Nat.reduceAdd, Nat.reduceSub, Nat.reduceMul, Int.reduceNeg, Nat.reduceLT, Int.reduceToNat, Nat.reduceLeDiff, Nat.sub_zero])
  · (try simp (maxSteps := 1000000) (dsimp := false) (disch := (first | omega | (simp only [okR]; done) | (simp only [sizeR] <;> omega) | fail)) only [↓preR, postR, ↓w_stop, Nat.reduceEqDiff, Nat.reduceAdd, Nat.reduceSub, Nat.reduceMul, Int.reduceNeg, Nat.reduceLT, Int.reduceToNat, Nat.reduceLeDiff, Nat.sub_zero])
    refine awake_c h fun s5 h5 => ?_
    (try simp (maxSteps := 1000000) (dsimp := false) (disch := (first | omega | (simp only [okR]; done) | (simp only [sizeR] <;> omega) | fail)) only [↓preR, postR, ↓w_join, Nat.reduceEqDiff, Nat.reduceAdd, Nat.reduceSub, Nat.reduceMul, Int.reduceNeg, Nat.reduceLT, Int.reduceToNat, Nat.reduceLeDiff, Nat.sub_zero])
theorem copies_law {v0 v1 v2 : Value} {c : Ce} (h : Hs σ c []) (A0 : OV c (shOf Tryz.prog 8 22) v0) (A1 : OV c (shOf Tryz.prog 8 22) v1) (A2 : OV c (shOf Tryz.prog 8 4) v2) :
    kCall Tryz.prog 6 [v0, v1, v2] σ fun v _ => v = .bool true := by
  rw [show shOf Tryz.prog 8 4 = .bool from by kernel_rfl] at A2
  obtain ⟨ops, h0⟩ := opsL A0
  obtain ⟨more, h1⟩ := opsL A1
  obtain ⟨en, rfl⟩ := arg_bool A2
  exact copies_walk h h0 h1
end
end Go.Proofs.YtkpnackmijjciaaGreatDoor
