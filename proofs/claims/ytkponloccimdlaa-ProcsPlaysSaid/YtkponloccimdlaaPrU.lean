/- Processes as the document's answer has them: Exit, the walk. Conditions: as each theorem says. -/
import Derived.Test.YtkponloccimdlaaPrV
import Derived.Test.YtkponloccimdlaaPrZ
namespace Go.Proofs.Ytkponloccimdlaa
open E Go.Lib PT
set_option linter.unusedVariables false
set_option linter.unusedSimpArgs false
set_option maxHeartbeats 1000000
set_option maxRecDepth 20000

theorem PV.cur_nil {f : PV} {heir p : Int} : PV.cur f heir p [] = f := by
  have : PV.wok f heir p [] = false := by unfold PV.wok; simp
  unfold PV.cur
  rw [this]
  simp only [Bool.false_eq_true, if_false]
  funext i
  unfold PV.sweep
  simp
section
variable {σ σ' : AS} {X : Ce} {R : List Ck} {k : Value → AS → Prop} {r g N : Nat} {f f' : PV} {p n pid : Int} {w : Bool}
theorem rexit_c (hi : Inv f N) (h : Hs σ X (RT r g N f R)) (hN : N ≤ 1024) (hn : inI64 n)
    (hw : f.liv p = true → PV.Took (f.dead p n) (f.heirOf p) p w)
    (hbad : ∀ σ', f.liv p = false → Hs σ' X (RT r g N f R) → k (.int .i64 23) σ')
    (hok : ∀ σ', f.liv p = true → Hs σ' X (RT r g N (f.exit p n w) R) → k (.int .i64 0) σ') :
    kCall Try.prog 28 [pp r, .int .i64 p, .int .i64 n] σ k := by
  refine f28 ?_
  (try simp (maxSteps := 1000000) (dsimp := false) (disch := (first | omega | (simp only [okR]; done) | (simp only [sizeR] <;> omega) | fail)) only [↓preR, postR, ↓w_stop, Nat.reduceEqDiff, Nat.reduceAdd, Nat.reduceSub, Nat.reduceMul, Int.reduceNeg, Nat.reduceLT, Int.reduceToNat, Nat.reduceLeDiff, Nat.sub_zero, F28])
  refine join_by fun J1 hJ1 => ?_
  refine rlives_c hi.rg h hN ?_
  cases hl : f.liv p with
  | false =>
    (try simp (maxSteps := 1000000) (dsimp := false) (disch := (first | omega | (simp only [okR]; done) | (simp only [sizeR] <;> omega) | fail)) only [↓preR, postR, ↓w_stop, Nat.reduceEqDiff, Nat.reduceAdd, Nat.reduceSub, Nat.reduceMul, Int.reduceNeg, Nat.reduceLT, Int.reduceToNat, Nat.reduceLeDiff, Nat.sub_zero])
    exact hbad _ hl h
  | true =>
  (try simp (maxSteps := 1000000) (dsimp := false) (disch := (first | omega | (simp only [okR]; done) | (simp only [sizeR] <;> omega) | fail)) only [↓preR, postR, ↓w_stop, Nat.reduceEqDiff, Nat.reduceAdd, Nat.reduceSub, Nat.reduceMul, Int.reduceNeg, Nat.reduceLT, Int.reduceToNat, Nat.reduceLeDiff, Nat.sub_zero])
  refine hJ1 _ _ ?_
  clear hJ1
  (try simp (maxSteps := 1000000) (dsimp := false) (disch := (first | omega | (simp only [okR]; done) | (simp only [sizeR] <;> omega) | fail)) only [↓preR, postR, ↓w_stop, Nat.reduceEqDiff, Nat.reduceAdd, Nat.reduceSub, Nat.reduceMul, Int.reduceNeg, Nat.reduceLT, Int.reduceToNat, Nat.reduceLeDiff, Nat.sub_zero])
  refine join_by fun J2 hJ2 => ?_
  obtain ⟨c, hc, hcs⟩ := PV.liv_iff.1 hl
  have hkp := hi.keys p c hc
  have hp0 : p ≠ 0 := by omega
  have hself := PV.no_self hi hc hp0
  have hH := PV.heir_f hi hc
  have hHp := PV.heir_ne (f := f) hp0
  have hex := PV.exit_eq (n := n) (w := w) hc hself hHp
  have hw := hw hl
  have tail : J2 [.int .i64 (f.heirOf p)] σ := by
    refine hJ2 _ _ ?_
    clear hJ2
    generalize f.heirOf p = H at hH hHp hex hw ⊢
    have hH01 := hH.is
    (try simp (maxSteps := 1000000) (dsimp := false) (disch := (first | omega | (simp only [okR]; done) | (simp only [sizeR] <;> omega) | fail)) only [↓preR, postR, ↓w_stop, Nat.reduceEqDiff, Nat.reduceAdd, Nat.reduceSub, Nat.reduceMul, Int.reduceNeg, Nat.reduceLT, Int.reduceToNat, Nat.reduceLeDiff, Nat.sub_zero])
    refine join_by fun J3 hJ3 => ?_
    refine loop_inv (fun nn xs s => ∃ m : Nat, xs = [.int .i64 ((m : Int) + 1)] ∧ m ≤ N ∧ Rg (PV.cur f H p (visN m)) N ∧ Hs s X (RT r g N (PV.cur f H p (visN m)) R) ∧ nn = N - m) _
      ⟨0, rfl, by omega, ?_, ?_, rfl⟩ ?_
    · show Rg (PV.cur f H p []) N
      rw [PV.cur_nil]; exact hi.rg
    · show Hs _ X (RT r g N (PV.cur f H p []) R)
      rw [PV.cur_nil]; exact h
    rintro _ _ s again ⟨m, rfl, hm, hR, h2, rfl⟩ hag
    have e1 := h2.obj
    have e2 := (h2.front 1 rfl).obj
    (try simp (maxSteps := 1000000) (dsimp := false) (disch := (first | omega | (simp only [okR]; done) | (simp only [sizeR] <;> omega) | fail)) only [↓preR, postR, ↓w_stop, Nat.reduceEqDiff, Nat.reduceAdd, Nat.reduceSub, Nat.reduceMul, Int.reduceNeg, Nat.reduceLT, Int.reduceToNat, Nat.reduceLeDiff, Nat.sub_zero, e1])
    refine join_now ?_
    by_cases hlt : m < N
    rotate_left
    · (try simp (maxSteps := 1000000) (dsimp := false) (disch := (first | omega | (simp only [okR]; done) | (simp only [sizeR] <;> omega) | fail)) only [↓preR, postR, ↓w_stop, Nat.reduceEqDiff, Nat.reduceAdd, Nat.reduceSub, Nat.reduceMul, Int.reduceNeg, Nat.reduceLT, Int.reduceToNat, Nat.reduceLeDiff, Nat.sub_zero, e1])
      refine hJ3 _ _ ?_
      clear hJ3
      have : m = N := by omega
      subst this
      obtain ⟨w', hw', hcd⟩ := PV.cur_done hH (vis := visN m) (fun i d hd => mem_vis.2 (by have := hi.keys i d hd; omega))
      have hww := PV.took_eq hc hself hw' hw
      subst hww
      rw [hcd] at h2 hR e2
      have hqp := PV.done_p (w := w') hc hself hHp
      generalize PV.done f H p w' = q at h2 hR e2 hqp hex
      obtain ⟨i, rfl⟩ : ∃ i : Nat, p = (i : Int) := ⟨p.toNat, by omega⟩
      have c1 := row1 (f := q) (N := m) (i := i) (by omega)
      rw [get_some hqp] at c1
      have hlen := rowR_len m q
      have hz : List.take (i * 3) (rowR m q) ++ [Value.int .i64 0, .int .i64 0, .int .i64 0] ++ List.drop (i * 3 + 3) (rowR m q) = rowR m (q.put (i : Int) none) := rowR_all (c := none) (by omega)
      (try simp (maxSteps := 1000000) (dsimp := false) (disch := (first | omega | (simp only [okR]; done) | (simp only [sizeR] <;> omega) | fail)) only [↓preR, postR, ↓w_stop, Nat.reduceEqDiff, Nat.reduceAdd, Nat.reduceSub, Nat.reduceMul, Int.reduceNeg, Nat.reduceLT, Int.reduceToNat, Nat.reduceLeDiff, Nat.sub_zero, e1, e2, c1, hlen])
      refine join_by fun J4 hJ4 => ?_
      have tail4 : ∀ s', Hs s' X (RT r g m (f.exit (i : Int) n w') R) → J4 [] s' := by
        intro s' h'
        refine hJ4 _ _ ?_
        (try simp (maxSteps := 1000000) (dsimp := false) (disch := (first | omega | (simp only [okR]; done) | (simp only [sizeR] <;> omega) | fail)) only [↓preR, postR, ↓w_stop, Nat.reduceEqDiff, Nat.reduceAdd, Nat.reduceSub, Nat.reduceMul, Int.reduceNeg, Nat.reduceLT, Int.reduceToNat, Nat.reduceLeDiff, Nat.sub_zero])
        exact hok _ hl h'
      clear hJ4
      rw [hz]
      have h3 : Hs (s.put g (.cells (rowR m (q.put (i : Int) none)))) X (RT r g m (q.put (i : Int) none) R) := h2.putAt 1 rfl
      generalize s.put g (.cells (rowR m (q.put (i : Int) none))) = s3 at h3 ⊢
      have e3 := h3.obj
      have e4 := (h3.front 1 rfl).obj
      have hlen2 := rowR_len m (q.put (i : Int) none)
      by_cases hp0' : c.par = 0
      · rw [if_pos hp0'] at hex
        rw [hex] at tail4
        (try simp (maxSteps := 1000000) (dsimp := false) (disch := (first | omega | (simp only [okR]; done) | (simp only [sizeR] <;> omega) | fail)) only [↓preR, postR, ↓w_stop, Nat.reduceEqDiff, Nat.reduceAdd, Nat.reduceSub, Nat.reduceMul, Int.reduceNeg, Nat.reduceLT, Int.reduceToNat, Nat.reduceLeDiff, Nat.sub_zero, hp0'])
        exact tail4 _ h3
      · rw [if_neg hp0'] at hex
        rw [hex] at tail4
        (try simp (maxSteps := 1000000) (dsimp := false) (disch := (first | omega | (simp only [okR]; done) | (simp only [sizeR] <;> omega) | fail)) only [↓preR, postR, ↓w_stop, Nat.reduceEqDiff, Nat.reduceAdd, Nat.reduceSub, Nat.reduceMul, Int.reduceNeg, Nat.reduceLT, Int.reduceToNat, Nat.reduceLeDiff, Nat.sub_zero, hp0', e3, e4, hlen2])
        refine rtold_c (hR.gone.put (by omega) (by omega) (.inr (.inr rfl))) (rstore (i := i) (c := some ⟨3, c.par, n⟩) h3 (by omega) (by simp)) hN fun s5 h5 => ?_
        (try simp (maxSteps := 1000000) (dsimp := false) (disch := (first | omega | (simp only [okR]; done) | (simp only [sizeR] <;> omega) | fail)) only [↓preR, postR, ↓w_stop, Nat.reduceEqDiff, Nat.reduceAdd, Nat.reduceSub, Nat.reduceMul, Int.reduceNeg, Nat.reduceLT, Int.reduceToNat, Nat.reduceLeDiff, Nat.sub_zero])
        exact tail4 _ h5
    clear hJ3
    have ex : ((m + 1 : Nat) : Int) = (m : Int) + 1 := by omega
    have en : ((m : Int) + 1).toNat = m + 1 := by omega
    have hnv : ((m : Int) + 1) ∉ visN m := fun hm => by have := mem_vis.1 hm; omega
    have hq := PV.cur_at hH hnv
    have hvis : visN (m + 1) = ((m : Int) + 1) :: visN m := rfl
    generalize hqq : PV.cur f H p (visN m) = q at h2 hR e2 hq
    have hlen := rowR_len N q
    have c0 := row0 (f := q) (N := N) (i := m + 1) (by omega)
    have c1 := row1 (f := q) (N := N) (i := m + 1) (by omega)
    rw [ex] at c0 c1
    (try simp (maxSteps := 1000000) (dsimp := false) (disch := (first | omega | (simp only [okR]; done) | (simp only [sizeR] <;> omega) | fail)) only [↓preR, postR, ↓w_stop, Nat.reduceEqDiff, Nat.reduceAdd, Nat.reduceSub, Nat.reduceMul, Int.reduceNeg, Nat.reduceLT, Int.reduceToNat, Nat.reduceLeDiff, Nat.sub_zero, e1])
    refine join_by fun J7 hJ7 => ?_
    have next : ∀ (s' : AS) (q' : PV), q' = PV.cur f H p (visN (m + 1)) → Rg q' N → Hs s' X (RT r g N q' R) → J7 [] s' := by
      intro s' q' hq' hR' h'
      subst hq'
      refine hJ7 _ _ ?_
      (try simp (maxSteps := 1000000) (dsimp := false) (disch := (first | omega | (simp only [okR]; done) | (simp only [sizeR] <;> omega) | fail)) only [↓preR, postR, ↓w_stop, Nat.reduceEqDiff, Nat.reduceAdd, Nat.reduceSub, Nat.reduceMul, Int.reduceNeg, Nat.reduceLT, Int.reduceToNat, Nat.reduceLeDiff, Nat.sub_zero])
      exact hag _ _ _ ⟨m + 1, by rw [ex], by omega, hR', h', rfl⟩ (by omega)
    clear hJ7
    (try simp (maxSteps := 1000000) (dsimp := false) (disch := (first | omega | (simp only [okR]; done) | (simp only [sizeR] <;> omega) | fail)) only [↓preR, postR, ↓w_stop, Nat.reduceEqDiff, Nat.reduceAdd, Nat.reduceSub, Nat.reduceMul, Int.reduceNeg, Nat.reduceLT, Int.reduceToNat, Nat.reduceLeDiff, Nat.sub_zero])
    refine join_by fun J8 hJ8 => ?_
    cases hf : f ((m : Int) + 1) with
    | none =>
      have hqn : q ((m : Int) + 1) = none := by rw [hq, hf]; split <;> rfl
      rw [get_none hqn] at c0
      (try simp (maxSteps := 1000000) (dsimp := false) (disch := (first | omega | (simp only [okR]; done) | (simp only [sizeR] <;> omega) | fail)) only [↓preR, postR, ↓w_stop, Nat.reduceEqDiff, Nat.reduceAdd, Nat.reduceSub, Nat.reduceMul, Int.reduceNeg, Nat.reduceLT, Int.reduceToNat, Nat.reduceLeDiff, Nat.sub_zero, e1, e2, en, c0])
      exact next _ _ (by rw [hvis, PV.cur_none hf, hqq]) hR h2
    | some d =>
      have hds := hi.st _ d hf
      obtain ⟨d', hqd, hdp, hds', hsame⟩ : ∃ d', q ((m : Int) + 1) = some d' ∧ d'.par = d.par ∧ ¬ d'.st = 0 ∧ (d.par = p → d' = d) := by
        rw [hq, hf]
        split
        · rename_i hc1
          refine ⟨_, rfl, rfl, by simp, fun e => ?_⟩
          exfalso
          rcases hH01 with h0 | h1
          · omega
          · obtain ⟨e0, h5, _, h6⟩ := hH.at_ h1
            rw [hc1.2, h1, h5] at hf
            injection hf with hf
            subst hf
            omega
        · exact ⟨d, rfl, rfl, by omega, fun _ => rfl⟩
      rw [get_some hqd] at c0 c1
      by_cases hpar : d.par = p
      rotate_left
      · have hpar' : ¬ d'.par = p := by omega
        (try simp (maxSteps := 1000000) (dsimp := false) (disch := (first | omega | (simp only [okR]; done) | (simp only [sizeR] <;> omega) | fail)) only [↓preR, postR, ↓w_stop, Nat.reduceEqDiff, Nat.reduceAdd, Nat.reduceSub, Nat.reduceMul, Int.reduceNeg, Nat.reduceLT, Int.reduceToNat, Nat.reduceLeDiff, Nat.sub_zero, e1, e2, en, c0, c1, hds', hpar'])
        exact next _ _ (by rw [hvis, PV.cur_skip hf hpar, hqq]) hR h2
      obtain rfl := hsame hpar
      (try simp (maxSteps := 1000000) (dsimp := false) (disch := (first | omega | (simp only [okR]; done) | (simp only [sizeR] <;> omega) | fail)) only [↓preR, postR, ↓w_stop, Nat.reduceEqDiff, Nat.reduceAdd, Nat.reduceSub, Nat.reduceMul, Int.reduceNeg, Nat.reduceLT, Int.reduceToNat, Nat.reduceLeDiff, Nat.sub_zero, e1, e2, en, c0, c1, hds', hpar])
      refine hJ8 _ _ ?_
      clear hJ8
      have hset : (rowR N q).set ((m + 1) * 3 + 1) (.int .i64 H) = rowR N (q.put ((m : Int) + 1) (some ⟨d'.st, H, d'.sta⟩)) := by
        rw [← ex]
        exact set1 (by omega) (by rw [ex]; exact get_some hqd)
      have hR1 : Rg (q.put ((m : Int) + 1) (some ⟨d'.st, H, d'.sta⟩)) N := hR.put (by omega) (by omega) hds
      have h3 : Hs (s.put g (.cells (rowR N (q.put ((m : Int) + 1) (some ⟨d'.st, H, d'.sta⟩))))) X (RT r g N (q.put ((m : Int) + 1) (some ⟨d'.st, H, d'.sta⟩)) R) := h2.putAt 1 rfl
      have c0' : (rowR N (q.put ((m : Int) + 1) (some ⟨d'.st, H, d'.sta⟩)))[(m + 1) * 3]? = some (.int .i64 d'.st) := by
        have := row0 (f := q.put ((m : Int) + 1) (some ⟨d'.st, H, d'.sta⟩)) (N := N) (i := m + 1) (by omega)
        rw [ex, get_put, if_pos rfl] at this
        exact this
      have hlen1 := rowR_len N (q.put ((m : Int) + 1) (some ⟨d'.st, H, d'.sta⟩))
      have e3 := h3.obj
      have e4 := (h3.front 1 rfl).obj
      generalize hq1 : q.put ((m : Int) + 1) (some ⟨d'.st, H, d'.sta⟩) = q1 at hset hR1 h3 c0' hlen1 e3 e4
      by_cases hst : d'.st = 3
      · rw [hst] at c0'
        rcases hH01 with rfl | rfl
        · (try simp (maxSteps := 1000000) (dsimp := false) (disch := (first | omega | (simp only [okR]; done) | (simp only [sizeR] <;> omega) | fail)) only [↓preR, postR, ↓w_stop, Nat.reduceEqDiff, Nat.reduceAdd, Nat.reduceSub, Nat.reduceMul, Int.reduceNeg, Nat.reduceLT, Int.reduceToNat, Nat.reduceLeDiff, Nat.sub_zero, e1, e2, en, hlen, hset, e3, e4, c0', hlen1])
          refine next _ (q1.put ((m : Int) + 1) none) ?_ hR1.gone ?_
          · rw [hvis, PV.cur_gone hf hnv hpar hst, hqq, ← hq1]
            unfold PV.leave
            rw [if_pos rfl]
            funext i
            unfold PV.put
            split <;> rfl
          · have h4 := fun cs hcs => rstore (i := m + 1) (c := none) h3 (by omega) (cs := cs) hcs
            rw [ex] at h4
            have h5 := h4 (List.take ((m + 1) * 3) (rowR N q1) ++ [Value.int .i64 0, .int .i64 0, .int .i64 0] ++ List.drop ((m + 1) * 3 + 3) (rowR N q1)) rfl
            rw [put_put] at h5
            exact h5
        · (try simp (maxSteps := 1000000) (dsimp := false) (disch := (first | omega | (simp only [okR]; done) | (simp only [sizeR] <;> omega) | fail)) only [↓preR, postR, ↓w_stop, Nat.reduceEqDiff, Nat.reduceAdd, Nat.reduceSub, Nat.reduceMul, Int.reduceNeg, Nat.reduceLT, Int.reduceToNat, Nat.reduceLeDiff, Nat.sub_zero, e1, e2, en, hlen, hset, e3, e4, c0', hlen1])
          refine rtold_c hR1 h3 hN fun s5 h5 => ?_
          (try simp (maxSteps := 1000000) (dsimp := false) (disch := (first | omega | (simp only [okR]; done) | (simp only [sizeR] <;> omega) | fail)) only [↓preR, postR, ↓w_stop, Nat.reduceEqDiff, Nat.reduceAdd, Nat.reduceSub, Nat.reduceMul, Int.reduceNeg, Nat.reduceLT, Int.reduceToNat, Nat.reduceLeDiff, Nat.sub_zero])
          refine next _ _ ?_ hR1.turn1 h5
          rw [hvis, PV.cur_taken hH hf hnv hpar hst, hqq, ← hq1]
          unfold PV.leave
          rw [if_neg (by decide), hqd]
          rfl
      · (try simp (maxSteps := 1000000) (dsimp := false) (disch := (first | omega | (simp only [okR]; done) | (simp only [sizeR] <;> omega) | fail)) only [↓preR, postR, ↓w_stop, Nat.reduceEqDiff, Nat.reduceAdd, Nat.reduceSub, Nat.reduceMul, Int.reduceNeg, Nat.reduceLT, Int.reduceToNat, Nat.reduceLeDiff, Nat.sub_zero, e1, e2, en, hlen, hset, e3, e4, c0', hlen1, hst])
        refine next _ _ ?_ hR1 h3
        rw [hvis, PV.cur_live hH hf hnv hpar hst, hqq, ← hq1]
  clear hJ2
  have e1 := h.obj
  have e2 := (h.front 1 rfl).obj
  by_cases hp1 : p = 1
  · have hz : f.heirOf p = 0 := by unfold PV.heirOf; rw [if_neg (by rintro ⟨h1, _⟩; exact h1 hp1)]
    rw [hz] at tail
    subst hp1
    (try simp (maxSteps := 1000000) (dsimp := false) (disch := (first | omega | (simp only [okR]; done) | (simp only [sizeR] <;> omega) | fail)) only [↓preR, postR, ↓w_stop, Nat.reduceEqDiff, Nat.reduceAdd, Nat.reduceSub, Nat.reduceMul, Int.reduceNeg, Nat.reduceLT, Int.reduceToNat, Nat.reduceLeDiff, Nat.sub_zero, e1, e2])
    exact tail
  · (try simp (maxSteps := 1000000) (dsimp := false) (disch := (first | omega | (simp only [okR]; done) | (simp only [sizeR] <;> omega) | fail)) only [↓preR, postR, ↓w_stop, Nat.reduceEqDiff, Nat.reduceAdd, Nat.reduceSub, Nat.reduceMul, Int.reduceNeg, Nat.reduceLT, Int.reduceToNat, Nat.reduceLeDiff, Nat.sub_zero, e1, e2, hp1])
    refine rlives_c hi.rg h hN ?_
    cases hl1 : f.liv 1 with
    | false =>
      have hz : f.heirOf p = 0 := by unfold PV.heirOf; rw [if_neg (by rintro ⟨_, h1, _⟩; rw [hl1] at h1; cases h1)]
      rw [hz] at tail
      (try simp (maxSteps := 1000000) (dsimp := false) (disch := (first | omega | (simp only [okR]; done) | (simp only [sizeR] <;> omega) | fail)) only [↓preR, postR, ↓w_stop, Nat.reduceEqDiff, Nat.reduceAdd, Nat.reduceSub, Nat.reduceMul, Int.reduceNeg, Nat.reduceLT, Int.reduceToNat, Nat.reduceLeDiff, Nat.sub_zero, e1, e2])
      exact tail
    | true =>
      have c1 : (rowR N f)[4]? = some (.int .i64 (f.get 1).par) := row1 (i := 1) (by omega)
      by_cases h0 : (f.get 1).par = 0
      · have hz : f.heirOf p = 1 := by unfold PV.heirOf; rw [if_pos ⟨hp1, hl1, h0⟩]
        rw [hz] at tail
        (try simp (maxSteps := 1000000) (dsimp := false) (disch := (first | omega | (simp only [okR]; done) | (simp only [sizeR] <;> omega) | fail)) only [↓preR, postR, ↓w_stop, Nat.reduceEqDiff, Nat.reduceAdd, Nat.reduceSub, Nat.reduceMul, Int.reduceNeg, Nat.reduceLT, Int.reduceToNat, Nat.reduceLeDiff, Nat.sub_zero, e1, e2, c1, h0])
        exact tail
      · have hz : f.heirOf p = 0 := by unfold PV.heirOf; rw [if_neg (by rintro ⟨_, _, h1⟩; exact h0 h1)]
        rw [hz] at tail
        (try simp (maxSteps := 1000000) (dsimp := false) (disch := (first | omega | (simp only [okR]; done) | (simp only [sizeR] <;> omega) | fail)) only [↓preR, postR, ↓w_stop, Nat.reduceEqDiff, Nat.reduceAdd, Nat.reduceSub, Nat.reduceMul, Int.reduceNeg, Nat.reduceLT, Int.reduceToNat, Nat.reduceLeDiff, Nat.sub_zero, e1, e2, c1, h0])
        exact tail
end
end Go.Proofs.Ytkponloccimdlaa
