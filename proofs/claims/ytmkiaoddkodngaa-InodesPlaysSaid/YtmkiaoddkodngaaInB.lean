/- Nodes: what each call answers, what the node has, and what is free, call by call. Conditions: as each theorem says. -/
import Derived.Test.YtmkiaoddkodngaaInA
import Derived.Test.YtmkiaoddkodngaaInP
namespace Go.Proofs.Ytmkiaoddkodngaa
open E Go.Lib
set_option linter.unusedVariables false
set_option linter.unusedSimpArgs false
set_option maxHeartbeats 2000000
set_option maxRecDepth 20000

/-- Names and users are not many. -/
def BD (V : TV) (c : Nat) : Prop := ∀ i d, atV V i = some d → 0 ≤ d.names ∧ d.names ≤ c ∧ 0 ≤ d.users ∧ d.users ≤ c
section
variable {σ σ' : AS} {X : Ce} {R : List Ck} {k : Value → AS → Prop} {t r N m c : Nat} {V V' : TV} {ask i at_ n a b : Int} {j : Nat} {data s : List UInt8} {d : NV} {o : Option NV} {ops : List Op5} {v : Value}
theorem atV_set_or (h : atV (V.set j o) i = some d) : o = some d ∨ atV V i = some d := by
  unfold atV at h ⊢
  split at h
  · rename_i h1
    rw [if_pos h1]
    rw [List.getElem?_set] at h
    split at h
    · split at h
      · left; cases o with
        | none => cases h
        | some x => exact h
      · cases h
    · exact .inr h
  · cases h
theorem BD.mono (h : BD V c) {c' : Nat} (hc : c ≤ c') : BD V c' := fun i d hd => by have := h i d hd; omega
theorem BD.set (h : BD V c) (j : Nat) (ho : ∀ d, o = some d → 0 ≤ d.names ∧ d.names ≤ c ∧ 0 ≤ d.users ∧ d.users ≤ c) : BD (V.set j o) c := fun i d hd => by
  rcases atV_set_or hd with h1 | h1
  · exact ho d h1
  · exact h i d h1
theorem BD.step (h : BD V c) (op : Op5) (m : Nat) : BD (doM op V m).2 (c + 1) := by
  obtain ⟨ask, i, at_, n, data⟩ := op
  have h1 : BD V (c + 1) := h.mono (by omega)
  simp only [doM]
  by_cases h0 : ask = 0
  · rw [if_pos h0]
    split
    · exact h1
    · split
      · exact h1
      · exact h1.set _ (fun d hd => by injection hd with hd; subst hd; simp only; omega)
  rw [if_neg h0]
  cases hd : atV V i with
  | none => exact h1
  | some d =>
    have hb := h i d hd
    simp only
    split
    · exact h1.set _ (fun e he => by injection he with he; subst he; simp only; omega)
    split
    · split
      · exact h1
      · refine h1.set _ (fun e he => ?_)
        split at he
        · cases he
        · injection he with he; subst he; simp only; omega
    split
    · exact h1.set _ (fun e he => by injection he with he; subst he; simp only; omega)
    split
    · split
      · exact h1
      · refine h1.set _ (fun e he => ?_)
        split at he
        · cases he
        · injection he with he; subst he; simp only; omega
    split
    · split <;> exact h1
    split
    · split
      · exact h1
      · split
        · exact h1
        · exact h1.set _ (fun e he => by injection he with he; subst he; simp only; omega)
    · split
      · exact h1
      · split
        · exact h1
        · exact h1.set _ (fun e he => by injection he with he; subst he; simp only; omega)
theorem BD.ok (h : BD V c) (hc : c ≤ 1000) : ∀ d, atV V i = some d → -1000000 ≤ d.names ∧ d.names ≤ 1000000 ∧ -1000000 ≤ d.users ∧ d.users ≤ 1000000 := fun d hd => by have := h i d hd; omega
theorem Tb.fits (h : Hs σ X (Tb t N V :: R)) : used V ≤ N := by
  obtain ⟨nb, sp, st, ns, hi, rfl, h1⟩ := Tb.open h
  have := used_vw hi
  omega
theorem plays_walk (ho : RepL X v ops) (h : Hs σ X R) : kCall Try.prog 7 [.agg [.int .i64 a, .int .i64 b].toArray, v] σ fun v _ => v = .bool true := by
  obtain ⟨oa, ob, oo, cap, rfl, hcap, hmax, hat⟩ := ops_get ho
  unfold maxLen at hmax
  refine f7 ?_
  have h1 := h.new (cs := [.int .i64 a, .int .i64 b])
  (try simp (maxSteps := 1000000) (dsimp := false) (disch := (first | omega | (simp only [okR]; done) | (simp only [sizeR] <;> omega) | fail)) only [↓preR, postR, ↓w_stop, Nat.reduceEqDiff, Nat.reduceAdd, Nat.reduceSub, Nat.reduceMul, Int.reduceNeg, Nat.reduceLT, Int.reduceToNat, Nat.reduceLeDiff, Nat.sub_zero, F7])
  generalize AS.new σ _ = s1 at h1 ⊢
  generalize σ.n = ps at h1 ⊢
  refine vnew_c h1 (fun hb => ?_) (fun t s2 a1 a2 b1 b2 h2 => ?_)
  · (try simp (maxSteps := 1000000) (dsimp := false) (disch := (first | omega | (simp only [okR]; done) | (simp only [sizeR] <;> omega) | fail)) only [↓preR, postR, ↓w_stop, Nat.reduceEqDiff, Nat.reduceAdd, Nat.reduceSub, Nat.reduceMul, Int.reduceNeg, Nat.reduceLT, Int.reduceToNat, Nat.reduceLeDiff, Nat.sub_zero, h1.obj])
    refine rnew_c h1 (fun _ => ?_) (fun _ _ a1 a2 b1 b2 _ => by omega)
    (try simp (maxSteps := 1000000) (dsimp := false) (disch := (first | omega | (simp only [okR]; done) | (simp only [sizeR] <;> omega) | fail)) only [↓preR, postR, ↓w_stop, Nat.reduceEqDiff, Nat.reduceAdd, Nat.reduceSub, Nat.reduceMul, Int.reduceNeg, Nat.reduceLT, Int.reduceToNat, Nat.reduceLeDiff, Nat.sub_zero])
    refine join_now ?_
    (simp (maxSteps := 1000000) (dsimp := false) (disch := (first | omega | (simp only [okR]; done) | (simp only [sizeR] <;> omega) | fail)) only [↓preR, postR, ↓w_join, Nat.reduceEqDiff, Nat.reduceAdd, Nat.reduceSub, Nat.reduceMul, Int.reduceNeg, Nat.reduceLT, Int.reduceToNat, Nat.reduceLeDiff, Nat.sub_zero])
    refine awake_c h1 fun s2 => ?_
    (try simp (maxSteps := 1000000) (dsimp := false) (disch := (first | omega | (simp only [okR]; done) | (simp only [sizeR] <;> omega) | fail)) only [↓preR, postR, ↓w_join, Nat.reduceEqDiff, Nat.reduceAdd, Nat.reduceSub, Nat.reduceMul, Int.reduceNeg, Nat.reduceLT, Int.reduceToNat, Nat.reduceLeDiff, Nat.sub_zero])
  (try simp (maxSteps := 1000000) (dsimp := false) (disch := (first | omega | (simp only [okR]; done) | (simp only [sizeR] <;> omega) | fail)) only [↓preR, postR, ↓w_stop, Nat.reduceEqDiff, Nat.reduceAdd, Nat.reduceSub, Nat.reduceMul, Int.reduceNeg, Nat.reduceLT, Int.reduceToNat, Nat.reduceLeDiff, Nat.sub_zero, h2.obj1])
  refine rnew_c (h2.swap.drop) (fun hb => by omega) (fun r s3 _ _ _ _ h3 => ?_)
  have h4 := h3.swap
  have hN : b.toNat ≤ 4096 := by omega
  generalize b.toNat = N at h4 hN
  generalize hV0 : List.replicate a.toNat (none : Option NV) = V0 at h4
  have hB0 : BD V0 0 := fun i d hd => by
    exfalso
    rw [← hV0] at hd
    unfold atV at hd
    split at hd
    · rw [List.getElem?_replicate] at hd
      split at hd <;> cases hd
    · cases hd
  clear h1 h2 h3 hV0
  (try simp (maxSteps := 1000000) (dsimp := false) (disch := (first | omega | (simp only [okR]; done) | (simp only [sizeR] <;> omega) | fail)) only [↓preR, postR, ↓w_stop, Nat.reduceEqDiff, Nat.reduceAdd, Nat.reduceSub, Nat.reduceMul, Int.reduceNeg, Nat.reduceLT, Int.reduceToNat, Nat.reduceLeDiff, Nat.sub_zero])
  refine join_now ?_
  (try simp (maxSteps := 1000000) (dsimp := false) (disch := (first | omega | (simp only [okR]; done) | (simp only [sizeR] <;> omega) | fail)) only [↓preR, postR, ↓w_stop, Nat.reduceEqDiff, Nat.reduceAdd, Nat.reduceSub, Nat.reduceMul, Int.reduceNeg, Nat.reduceLT, Int.reduceToNat, Nat.reduceLeDiff, Nat.sub_zero])
  refine join_now ?_
  (try simp (maxSteps := 1000000) (dsimp := false) (disch := (first | omega | (simp only [okR]; done) | (simp only [sizeR] <;> omega) | fail)) only [↓preR, postR, ↓w_stop, Nat.reduceEqDiff, Nat.reduceAdd, Nat.reduceSub, Nat.reduceMul, Int.reduceNeg, Nat.reduceLT, Int.reduceToNat, Nat.reduceLeDiff, Nat.sub_zero])
  refine join_now ?_
  refine loop_inv (fun nn xs s => ∃ (i t r : Nat) (V : TV), xs = [pp t, pp r, .int .i64 (i : Nat)] ∧ i ≤ 80 ∧ i ≤ ops.length ∧ Hs s X (Tb t N V :: Rf r N V :: R) ∧ BD V (2 * i) ∧ nn = 80 - i) _ ⟨0, t, r, V0, rfl, by omega, by omega, h4, hB0, rfl⟩ ?_
  clear h4 hB0
  rintro _ _ s again ⟨i, t, r, V, rfl, hi, hil, h4, hB, rfl⟩ hag
  by_cases hc : i < ops.length ∧ i < 80
  rotate_left
  · by_cases hlt : i < ops.length
    · have hl' : (i : Int) < ops.length := by omega
      have : ¬ (i : Int) < 80 := by omega
      (simp (maxSteps := 1000000) (dsimp := false) (disch := (first | omega | (simp only [okR]; done) | (simp only [sizeR] <;> omega) | fail)) only [↓preR, postR, ↓w_join, Nat.reduceEqDiff, Nat.reduceAdd, Nat.reduceSub, Nat.reduceMul, Int.reduceNeg, Nat.reduceLT, Int.reduceToNat, Nat.reduceLeDiff, Nat.sub_zero])
      refine awake_c h4 fun s2 => ?_
      (try simp (maxSteps := 1000000) (dsimp := false) (disch := (first | omega | (simp only [okR]; done) | (simp only [sizeR] <;> omega) | fail)) only [↓preR, postR, ↓w_join, Nat.reduceEqDiff, Nat.reduceAdd, Nat.reduceSub, Nat.reduceMul, Int.reduceNeg, Nat.reduceLT, Int.reduceToNat, Nat.reduceLeDiff, Nat.sub_zero])
    · have hl' : ¬ (i : Int) < ops.length := by omega
      (simp (maxSteps := 1000000) (dsimp := false) (disch := (first | omega | (simp only [okR]; done) | (simp only [sizeR] <;> omega) | fail)) only [↓preR, postR, ↓w_join, Nat.reduceEqDiff, Nat.reduceAdd, Nat.reduceSub, Nat.reduceMul, Int.reduceNeg, Nat.reduceLT, Int.reduceToNat, Nat.reduceLeDiff, Nat.sub_zero])
      refine awake_c h4 fun s2 => ?_
      (try simp (maxSteps := 1000000) (dsimp := false) (disch := (first | omega | (simp only [okR]; done) | (simp only [sizeR] <;> omega) | fail)) only [↓preR, postR, ↓w_join, Nat.reduceEqDiff, Nat.reduceAdd, Nat.reduceSub, Nat.reduceMul, Int.reduceNeg, Nat.reduceLT, Int.reduceToNat, Nat.reduceLeDiff, Nat.sub_zero])
  obtain ⟨hlt, h80⟩ := hc
  obtain ⟨rfl, ⟨x0, x1, x2, x3, x4⟩, q1, q2, q3⟩ := hat i hlt
  have y0 := h4.ldx x0
  have y1 := h4.ldx x1
  have y2 := h4.ldx x2
  have y3 := h4.ldx x3
  have y4 := h4.ldx x4
  have hl' : (i : Int) < ops.length := by omega
  generalize ops[i].1 = ask at x0 x1 x2 x3 x4 y0 y1 y2 y3 y4 q1 q2 q3
  generalize ops[i].2.1 = I at x0 x1 x2 x3 x4 y0 y1 y2 y3 y4 q1 q2 q3
  generalize ops[i].2.2.1 = at_ at x0 x1 x2 x3 x4 y0 y1 y2 y3 y4 q1 q2 q3
  generalize ops[i].2.2.2.1 = nn at x0 x1 x2 x3 x4 y0 y1 y2 y3 y4 q1 q2 q3
  generalize ops[i].2.2.2.2 = data at x0 x1 x2 x3 x4 y0 y1 y2 y3 y4 q1 q2 q3
  have h5 := (Hs.new h4 (cs := [.int .i64 0, .int .i64 0, .int .i64 0, .int .i64 0, .string (bs [])])).put (cs' := [.int .i64 ask, .int .i64 I, .int .i64 at_, .int .i64 nn, .string (bs data)])
  have nxt : ∀ s' t' r' V', Hs s' X (Tb t' N V' :: Rf r' N V' :: R) → BD V' (2 * i + 2) → again [pp t', pp r', .int .i64 ((i : Int) + 1)] s' := fun s' t' r' V' g1 g2 =>
    hag _ _ _ ⟨i + 1, t', r', V', by simp, by omega, by omega, g1, g2.mono (by omega), rfl⟩ (by omega)
  clear hag
  by_cases hdl : data.length ≤ 5000
  rotate_left
  · (simp (maxSteps := 1000000) (dsimp := false) (disch := (first | omega | (simp only [okR]; done) | (simp only [sizeR] <;> omega) | fail)) only [↓preR, postR, ↓w_join, Nat.reduceEqDiff, Nat.reduceAdd, Nat.reduceSub, Nat.reduceMul, Int.reduceNeg, Nat.reduceLT, Int.reduceToNat, Nat.reduceLeDiff, Nat.sub_zero, y0, y1, y2, y3, y4])
    refine awake_c h5 fun s2 => ?_
    (try simp (maxSteps := 1000000) (dsimp := false) (disch := (first | omega | (simp only [okR]; done) | (simp only [sizeR] <;> omega) | fail)) only [↓preR, postR, ↓w_join, Nat.reduceEqDiff, Nat.reduceAdd, Nat.reduceSub, Nat.reduceMul, Int.reduceNeg, Nat.reduceLT, Int.reduceToNat, Nat.reduceLeDiff, Nat.sub_zero])
  have hbd := hB.ok (i := I) (by omega)
  by_cases h8 : ask = 8
  · subst h8
    (simp (maxSteps := 1000000) (dsimp := false) (disch := (first | omega | (simp only [okR]; done) | (simp only [sizeR] <;> omega) | fail)) only [↓preR, postR, ↓w_join, Nat.reduceEqDiff, Nat.reduceAdd, Nat.reduceSub, Nat.reduceMul, Int.reduceNeg, Nat.reduceLT, Int.reduceToNat, Nat.reduceLeDiff, Nat.sub_zero, y0, y1, y2, y3, y4])
    generalize s.n = ob at h5 ⊢
    generalize AS.put _ ob _ = s4 at h5 ⊢
    refine icopy_c h5.swap fun t' s5 g1 => ?_
    (try simp (maxSteps := 1000000) (dsimp := false) (disch := (first | omega | (simp only [okR]; done) | (simp only [sizeR] <;> omega) | fail)) only [↓preR, postR, ↓w_join, Nat.reduceEqDiff, Nat.reduceAdd, Nat.reduceSub, Nat.reduceMul, Int.reduceNeg, Nat.reduceLT, Int.reduceToNat, Nat.reduceLeDiff, Nat.sub_zero])
    refine rcopy_c (g1.front 3 rfl) fun r' s6 g2 => ?_
    have g3 : Hs s6 X (Tb t N V :: Rf r' N V :: Rf r N V :: Tb t' N V :: Cel ob [.int .i64 8, .int .i64 I, .int .i64 at_, .int .i64 nn, .string (bs data)] :: R) := g2.front 3 rfl
    have m1 := (g3.front 4 rfl).obj
    (simp (maxSteps := 1000000) (dsimp := false) (disch := (first | omega | (simp only [okR]; done) | (simp only [sizeR] <;> omega) | fail)) only [↓preR, postR, ↓w_join, Nat.reduceEqDiff, Nat.reduceAdd, Nat.reduceSub, Nat.reduceMul, Int.reduceNeg, Nat.reduceLT, Int.reduceToNat, Nat.reduceLeDiff, Nat.sub_zero, m1])
    refine vwrite_c (n := 0) g3 (by omega) (by simp) fun m s7 hmo g4 => ?_
    have m2 := (g4.front 4 rfl).obj
    (simp (maxSteps := 1000000) (dsimp := false) (disch := (first | omega | (simp only [okR]; done) | (simp only [sizeR] <;> omega) | fail)) only [↓preR, postR, ↓w_join, Nat.reduceEqDiff, Nat.reduceAdd, Nat.reduceSub, Nat.reduceMul, Int.reduceNeg, Nat.reduceLT, Int.reduceToNat, Nat.reduceLeDiff, Nat.sub_zero, m2])
    refine vtie_c (at_ := 0) (n := 0) (data := []) g4 (fun d hd => by have := (hB.step (6, I, 0, 0, [99, 104, 97, 110, 103, 101, 100]) m).ok (by omega) d hd; omega) fun s8 g5 => ?_
    (simp (maxSteps := 1000000) (dsimp := false) (disch := (first | omega | (simp only [okR]; done) | (simp only [sizeR] <;> omega) | fail)) only [↓preR, postR, ↓w_join, Nat.reduceEqDiff, Nat.reduceAdd, Nat.reduceSub, Nat.reduceMul, Int.reduceNeg, Nat.reduceLT, Int.reduceToNat, Nat.reduceLeDiff, Nat.sub_zero])
    have g6 : Hs s8 X (Rf r' N V :: Rf r N V :: Tb t' N V :: Cel ob [.int .i64 8, .int .i64 I, .int .i64 at_, .int .i64 nn, .string (bs data)] :: R) := g5.drop
    have g7 : Hs s8 X (Rf r' N V :: Tb t' N V :: Cel ob [.int .i64 8, .int .i64 I, .int .i64 at_, .int .i64 nn, .string (bs data)] :: R) := (g6.front 1 rfl).drop
    have g8 : Hs s8 X (Rf r' N V :: Tb t' N V :: R) := (g7.front 2 rfl).drop
    exact nxt _ _ _ _ g8.swap (hB.mono (by omega))
  · (simp (maxSteps := 1000000) (dsimp := false) (disch := (first | omega | (simp only [okR]; done) | (simp only [sizeR] <;> omega) | fail)) only [↓preR, postR, ↓w_join, Nat.reduceEqDiff, Nat.reduceAdd, Nat.reduceSub, Nat.reduceMul, Int.reduceNeg, Nat.reduceLT, Int.reduceToNat, Nat.reduceLeDiff, Nat.sub_zero, y0, y1, y2, y3, y4, h8])
    generalize s.n = ob at h5 ⊢
    generalize AS.put _ ob _ = s4 at h5 ⊢
    have hu := Tb.fits h5.swap
    have hstep := hB.step (ask, I, at_, nn, data)
    refine do_c q1 q2 q3 (by omega) h5.swap hbd fun m s5 hmo g1 => ?_
    replace hstep := hstep m
    (simp (maxSteps := 1000000) (dsimp := false) (disch := (first | omega | (simp only [okR]; done) | (simp only [sizeR] <;> omega) | fail)) only [↓preR, postR, ↓w_join, Nat.reduceEqDiff, Nat.reduceAdd, Nat.reduceSub, Nat.reduceMul, Int.reduceNeg, Nat.reduceLT, Int.reduceToNat, Nat.reduceLeDiff, Nat.sub_zero, g1.obj1])
    refine plain_c q1 q2 q3 (by omega) hN hu (g1.front 2 rfl) hbd fun m' s6 hmo' g2 => ?_
    rw [doM_det hmo' hmo] at g2 ⊢
    clear hmo hmo' g1 h4 h5
    generalize doM (ask, I, at_, nn, data) V m = res at hstep g2 ⊢
    obtain ⟨⟨ra, rs, re⟩, V'⟩ := res
    simp only at hstep g2 ⊢
    have g3 : Hs s6 X (Rf r N V' :: Tb t N V' :: Cel ob [.int .i64 ask, .int .i64 I, .int .i64 at_, .int .i64 nn, .string (bs data)] :: R) := g2
    have m1 := g3.obj2
    (simp (maxSteps := 1000000) (dsimp := false) (disch := (first | omega | (simp only [okR]; done) | (simp only [sizeR] <;> omega) | fail)) only [↓preR, postR, ↓w_join, Nat.reduceEqDiff, Nat.reduceAdd, Nat.reduceSub, Nat.reduceMul, Int.reduceNeg, Nat.reduceLT, Int.reduceToNat, Nat.reduceLeDiff, Nat.sub_zero, m1])
    obtain ⟨x, hx, g4⟩ := Rf.open g3
    refine rget_c (i := I) g4 hx fun s7 w g5 hsome hnone => ?_
    have g6 := Rf.close g5 hx
    clear g2 g3 g4 g5 hx
    have hsm := Tb.small (g6.front 1 rfl) I
    have hw : ∃ kd nm us dt sa n c, w = .agg [.int .i64 kd, .int .i64 nm, .int .i64 us, .string (bs dt), .slice sa n c].toArray ∧ ((atV V' I).map (·.kind)).getD 0 = kd ∧ ((atV V' I).map (·.names)).getD 0 = nm ∧
        ((atV V' I).map fun d => (d.data.length : Int)).getD 0 = (dt.length : Int) ∧ (doM (5, I, 0, 4096, []) V' 0).1.2.1 = dt := by
      cases hd : atV V' I with
      | none =>
        refine ⟨0, 0, 0, [], none, 0, 0, hnone hd, rfl, rfl, rfl, ?_⟩
        simp [doM, hd]
      | some d =>
        obtain ⟨sa, c, hw⟩ := hsome d hd
        refine ⟨_, _, _, _, sa, 64, c, hw, rfl, rfl, rfl, ?_⟩
        unfold szN at hsm
        rw [hd] at hsm
        simp only at hsm
        simp only [doM, hd]
        simp
        exact List.take_of_length_le hsm
    clear hsome hnone hsm
    obtain ⟨kd, nm, us, dt, sa, sn, sc, rfl, e1, e2, e3, e4⟩ := hw
    have g7 := (g6.new (cs := [.int .i64 0, .int .i64 0, .int .i64 0, .string (bs []), .slice none 0 0])).put (cs' := [.int .i64 kd, .int .i64 nm, .int .i64 us, .string (bs dt), .slice sa sn sc])
    (simp (maxSteps := 1000000) (dsimp := false) (disch := (first | omega | (simp only [okR]; done) | (simp only [sizeR] <;> omega) | fail)) only [↓preR, postR, ↓w_join, Nat.reduceEqDiff, Nat.reduceAdd, Nat.reduceSub, Nat.reduceMul, Int.reduceNeg, Nat.reduceLT, Int.reduceToNat, Nat.reduceLeDiff, Nat.sub_zero])
    generalize s7.n = xb at g7 ⊢
    generalize AS.put _ xb _ = s8 at g7 ⊢
    have m2 := g7.obj
    have m3 := g7.obj3
    have gT := g7.front 2 rfl
    have gR := g7.front 1 rfl
    refine vfree_c gT fun hle => ?_
    (simp (maxSteps := 1000000) (dsimp := false) (disch := (first | omega | (simp only [okR]; done) | (simp only [sizeR] <;> omega) | fail)) only [↓preR, postR, ↓w_join, Nat.reduceEqDiff, Nat.reduceAdd, Nat.reduceSub, Nat.reduceMul, Int.reduceNeg, Nat.reduceLT, Int.reduceToNat, Nat.reduceLeDiff, Nat.sub_zero])
    refine rfree_c gR hN hle ?_
    (try simp (maxSteps := 1000000) (dsimp := false) (disch := (first | omega | (simp only [okR]; done) | (simp only [sizeR] <;> omega) | fail)) only [↓preR, postR, ↓w_stop, Nat.reduceEqDiff, Nat.reduceAdd, Nat.reduceSub, Nat.reduceMul, Int.reduceNeg, Nat.reduceLT, Int.reduceToNat, Nat.reduceLeDiff, Nat.sub_zero])
    refine join_by fun J hJ => ?_
    have tail : J [] s8 := by
      refine hJ _ _ ?_
      clear hJ
      (simp (maxSteps := 1000000) (dsimp := false) (disch := (first | omega | (simp only [okR]; done) | (simp only [sizeR] <;> omega) | fail)) only [↓preR, postR, ↓w_join, Nat.reduceEqDiff, Nat.reduceAdd, Nat.reduceSub, Nat.reduceMul, Int.reduceNeg, Nat.reduceLT, Int.reduceToNat, Nat.reduceLeDiff, Nat.sub_zero, m3])
      refine vread_c (i := I) (at_ := 0) (n := 4096) (data := []) gT fun s9 g9 => ?_
      rw [e4]
      have m4 := g9.obj1
      (simp (maxSteps := 1000000) (dsimp := false) (disch := (first | omega | (simp only [okR]; done) | (simp only [sizeR] <;> omega) | fail)) only [↓preR, postR, ↓w_join, Nat.reduceEqDiff, Nat.reduceAdd, Nat.reduceSub, Nat.reduceMul, Int.reduceNeg, Nat.reduceLT, Int.reduceToNat, Nat.reduceLeDiff, Nat.sub_zero, m4])
      have g10 : Hs s9 X (Rf r N V' :: Tb t N V' :: Cel xb [.int .i64 kd, .int .i64 nm, .int .i64 us, .string (bs dt), .slice sa sn sc] :: Cel ob [.int .i64 ask, .int .i64 I, .int .i64 at_, .int .i64 nn, .string (bs data)] :: R) := g9.front 2 rfl
      have g11 : Hs s9 X (Rf r N V' :: Tb t N V' :: Cel ob [.int .i64 ask, .int .i64 I, .int .i64 at_, .int .i64 nn, .string (bs data)] :: R) := ((g10.front 2 rfl).drop)
      have g12 : Hs s9 X (Rf r N V' :: Tb t N V' :: R) := ((g11.front 2 rfl).drop)
      exact nxt _ _ _ _ g12.swap (hstep.mono (by omega))
    clear hJ nxt
    (simp (maxSteps := 1000000) (dsimp := false) (disch := (first | omega | (simp only [okR]; done) | (simp only [sizeR] <;> omega) | fail)) only [↓preR, postR, ↓w_join, Nat.reduceEqDiff, Nat.reduceAdd, Nat.reduceSub, Nat.reduceMul, Int.reduceNeg, Nat.reduceLT, Int.reduceToNat, Nat.reduceLeDiff, Nat.sub_zero, m2, m3])
    refine vkind_c gT ?_
    rw [e1]
    (simp (maxSteps := 1000000) (dsimp := false) (disch := (first | omega | (simp only [okR]; done) | (simp only [sizeR] <;> omega) | fail)) only [↓preR, postR, ↓w_join, Nat.reduceEqDiff, Nat.reduceAdd, Nat.reduceSub, Nat.reduceMul, Int.reduceNeg, Nat.reduceLT, Int.reduceToNat, Nat.reduceLeDiff, Nat.sub_zero, m2, m3])
    refine vsize_c gT ?_
    rw [e3]
    (simp (maxSteps := 1000000) (dsimp := false) (disch := (first | omega | (simp only [okR]; done) | (simp only [sizeR] <;> omega) | fail)) only [↓preR, postR, ↓w_join, Nat.reduceEqDiff, Nat.reduceAdd, Nat.reduceSub, Nat.reduceMul, Int.reduceNeg, Nat.reduceLT, Int.reduceToNat, Nat.reduceLeDiff, Nat.sub_zero, m2, m3])
    refine vlinks_c gT ?_
    rw [e2]
    (simp (maxSteps := 1000000) (dsimp := false) (disch := (first | omega | (simp only [okR]; done) | (simp only [sizeR] <;> omega) | fail)) only [↓preR, postR, ↓w_join, Nat.reduceEqDiff, Nat.reduceAdd, Nat.reduceSub, Nat.reduceMul, Int.reduceNeg, Nat.reduceLT, Int.reduceToNat, Nat.reduceLeDiff, Nat.sub_zero, m2, m3])
    exact tail
theorem plays_law {v0 v1 : Value} {c : Ce} (h : Hs σ c []) (A0 : OV c (shOf Try.prog 8 38) v0) (A1 : OV c (shOf Try.prog 8 41) v1) : kCall Try.prog 7 [v0, v1] σ fun v _ => v = .bool true := by
  rw [show shOf Try.prog 8 38 = .fld 1 (.int .i64) (.fld 1 (.int .i64) .fin) from by kernel_rfl] at A0
  obtain ⟨⟨a, b⟩, cs, rfl, x, y, rfl, ⟨rfl, h1⟩, rfl, h2⟩ := arg_agg (α := Int × Int) A0
  obtain ⟨l, hl⟩ := ops_arg A1
  exact plays_walk hl h
end
end Go.Proofs.Ytmkiaoddkodngaa
