/- Variables: what each call answers, and what there is, call by call. Conditions: none. -/
import Derived.Test.YtkpnackmijjciaaGreatDoorVaX
namespace Go.Proofs.YtkpnackmijjciaaGreatDoor
open E Go.Lib
set_option linter.unusedVariables false
set_option linter.unusedSimpArgs false
set_option maxHeartbeats 1000000
set_option maxRecDepth 20000

section
variable {σ σ' : AS} {X : Ce} {R : List Ck} {k : Value → AS → Prop} {v r m : Nat} {a u : Value} {zero n val s : Str} {ms : List Str} {S : VM} {ops : List OpV} {j : Nat}
theorem Vm.nd (h : Hs σ X (Vm v zero S :: R)) : (S.l.map (·.1)).Nodup := by
  obtain ⟨av, m, h1⟩ := Vs.open h
  exact keys_nodup (Mp.keys (κ := Str) (h1.front 1 rfl))
theorem InvV.fv (h : InvV S j) : Fv200 (allV S.l) := by
  intro p hp
  obtain ⟨y, hy, e⟩ := mem_all.1 hp
  have := h.ok _ _ hy
  rw [e]
  exact this
theorem plays_walk (h : Hs σ X R) (ha : RepL X a ms) (hr : RepL X u ops) : kCall Tryz.prog 5 [a, u] σ fun v _ => v = .bool true := by
  obtain ⟨a0, b, o, cap, rfl, hc, hm, hat⟩ := ops_at hr
  refine f5 ?_
  unfold maxLen at hm
  (try simp (maxSteps := 1000000) (dsimp := false) (disch := (first | omega | (simp only [okR]; done) | (simp only [sizeR] <;> omega) | fail)) only [↓preR, postR, ↓w_stop, Nat.reduceEqDiff, Nat.reduceAdd, Nat.reduceSub, Nat.reduceMul, Int.reduceNeg, Nat.reduceLT, Int.reduceToNat, Nat.reduceLeDiff, Nat.sub_zero, F5])
  refine join_by fun J hJ => ?_
  have tail : TextsP ms → FewP ops → J [] σ := by
    intro ht hf
    refine hJ _ _ ?_
    clear hJ
    have hml : ms.length ≤ 1000000 := by have := ht.1; omega
    obtain ⟨au, ac, hav, _⟩ := ha.val
    subst hav
    (try simp (maxSteps := 1000000) (dsimp := false) (disch := (first | omega | (simp only [okR]; done) | (simp only [sizeR] <;> omega) | fail)) only [↓preR, postR, ↓w_stop, Nat.reduceEqDiff, Nat.reduceAdd, Nat.reduceSub, Nat.reduceMul, Int.reduceNeg, Nat.reduceLT, Int.reduceToNat, Nat.reduceLeDiff, Nat.sub_zero])
    refine vnew_c h (TxS.rep h ha) hml fun v s3 h3 => ?_
    (try simp (maxSteps := 1000000) (dsimp := false) (disch := (first | omega | (simp only [okR]; done) | (simp only [sizeR] <;> omega) | fail)) only [↓preR, postR, ↓w_stop, Nat.reduceEqDiff, Nat.reduceAdd, Nat.reduceSub, Nat.reduceMul, Int.reduceNeg, Nat.reduceLT, Int.reduceToNat, Nat.reduceLeDiff, Nat.sub_zero])
    have h4 : Hs _ X (Cel s3.n [.slice none 0 0, .string (bs [122, 101, 114, 111]), .slice au ms.length ac, .int .i64 0] :: Vm v [122, 101, 114, 111] ⟨ms, 0, []⟩ :: R) := h3.new
    have h5 : Hs _ X (VarR (.slice none 0 0) [] :: Cel s3.n [.slice none 0 0, .string (bs [122, 101, 114, 111]), .slice au ms.length ac, .int .i64 0] :: Vm v [122, 101, 114, 111] ⟨ms, 0, []⟩ :: R) := VarR.own h4.own0
    generalize AS.new s3 _ = s4 at h5 ⊢
    generalize s3.n = r at h5 ⊢
    refine join_by fun J2 hJ2 => ?_
    have tail2 : ∀ (s5 : AS) (S : VM) (lv av : Value), InvV S ops.length → RepL X av S.ar → Hs s5 X (Vm v [122, 101, 114, 111] S :: RfL lv r [122, 101, 114, 111] av S.st (allV S.l) R) → J2 [] s5 := by
      intro s5 S lv av hI hra h6
      refine hJ2 _ _ ?_
      clear hJ2
      have hlen : S.l.length ≤ 1000000 := by have := hI.len; have := hf.1; omega
      have hlen2 : (allV S.l).length ≤ 1000000 := by rw [all_len]; exact hlen
      have hal : S.ar.length ≤ 1000000 := by have := hI.ar; omega
      obtain ⟨la, lg, lo, lc, hlv, _⟩ := VarR.get (h6.front 1 rfl)
      subst hlv
      obtain ⟨ra, rc, hrv, _⟩ := hra.val
      subst hrv
      have e6 := (h6.front 2 rfl).obj
      (try simp (maxSteps := 1000000) (dsimp := false) (disch := (first | omega | (simp only [okR]; done) | (simp only [sizeR] <;> omega) | fail)) only [↓preR, postR, ↓w_stop, Nat.reduceEqDiff, Nat.reduceAdd, Nat.reduceSub, Nat.reduceMul, Int.reduceNeg, Nat.reduceLT, Int.reduceToNat, Nat.reduceLeDiff, Nat.sub_zero, e6])
      refine all_c hI.vl hlen h6 fun w1 s6 h7 => ?_
      have e7 := (h7.front 3 rfl).obj
      (try simp (maxSteps := 1000000) (dsimp := false) (disch := (first | omega | (simp only [okR]; done) | (simp only [sizeR] <;> omega) | fail)) only [↓preR, postR, ↓w_stop, Nat.reduceEqDiff, Nat.reduceAdd, Nat.reduceSub, Nat.reduceMul, Int.reduceNeg, Nat.reduceLT, Int.reduceToNat, Nat.reduceLeDiff, Nat.sub_zero, e7])
      refine plain_c hI.all hlen2 h7 fun w2 s7 h8 => ?_
      have e8 := (h8.front 4 rfl).obj
      (try simp (maxSteps := 1000000) (dsimp := false) (disch := (first | omega | (simp only [okR]; done) | (simp only [sizeR] <;> omega) | fail)) only [↓preR, postR, ↓w_stop, Nat.reduceEqDiff, Nat.reduceAdd, Nat.reduceSub, Nat.reduceMul, Int.reduceNeg, Nat.reduceLT, Int.reduceToNat, Nat.reduceLeDiff, Nat.sub_zero, e8])
      have h9 : Hs s7 X (VarR w2 (allV S.l) :: VarR (.slice la (allV S.l).length lc) (allV S.l) :: VarR w1 (allV S.l) :: Vm v [122, 101, 114, 111] S :: Cel r [.slice la (allV S.l).length lc, .string (bs [122, 101, 114, 111]), .slice ra S.ar.length rc, .int .i64 S.st] :: R) := (h8.front 3 rfl).swap
      refine same_c h9 ?_
      (try simp (maxSteps := 1000000) (dsimp := false) (disch := (first | omega | (simp only [okR]; done) | (simp only [sizeR] <;> omega) | fail)) only [↓preR, postR, ↓w_stop, Nat.reduceEqDiff, Nat.reduceAdd, Nat.reduceSub, Nat.reduceMul, Int.reduceNeg, Nat.reduceLT, Int.reduceToNat, Nat.reduceLeDiff, Nat.sub_zero])
      refine venv_c hI.vl hI.fv hlen (h9.front 3 rfl) fun w3 s8 h10 => ?_
      (try simp (maxSteps := 1000000) (dsimp := false) (disch := (first | omega | (simp only [okR]; done) | (simp only [sizeR] <;> omega) | fail)) only [↓preR, postR, ↓w_stop, Nat.reduceEqDiff, Nat.reduceAdd, Nat.reduceSub, Nat.reduceMul, Int.reduceNeg, Nat.reduceLT, Int.reduceToNat, Nat.reduceLeDiff, Nat.sub_zero])
      have h11 : Hs s8 X (RfL (.slice la (allV S.l).length lc) r [122, 101, 114, 111] (.slice ra S.ar.length rc) S.st (allV S.l) (E.Own (α := Str) w3 (envV (allV S.l)) :: Vm v [122, 101, 114, 111] S :: VarR w2 (allV S.l) :: VarR w1 (allV S.l) :: R)) := (h10.front 5 rfl).front 4 rfl
      refine renv_c hI.fv hlen2 h11 fun w4 s9 h12 => ?_
      (try simp (maxSteps := 1000000) (dsimp := false) (disch := (first | omega | (simp only [okR]; done) | (simp only [sizeR] <;> omega) | fail)) only [↓preR, postR, ↓w_stop, Nat.reduceEqDiff, Nat.reduceAdd, Nat.reduceSub, Nat.reduceMul, Int.reduceNeg, Nat.reduceLT, Int.reduceToNat, Nat.reduceLeDiff, Nat.sub_zero])
      refine rtexts_c (TxS.own (h12.front 3 rfl)) (TxS.own h12) (by have := env_len (L := allV S.l); omega) ?_
      have e12 := (h12.front 2 rfl).obj
      (try simp (maxSteps := 1000000) (dsimp := false) (disch := (first | omega | (simp only [okR]; done) | (simp only [sizeR] <;> omega) | fail)) only [↓preR, postR, ↓w_stop, Nat.reduceEqDiff, Nat.reduceAdd, Nat.reduceSub, Nat.reduceMul, Int.reduceNeg, Nat.reduceLT, Int.reduceToNat, Nat.reduceLeDiff, Nat.sub_zero, e12])
      refine args_c (h12.front 4 rfl) hal fun w5 s10 h13 => ?_
      have e13 := (h13.front 4 rfl).obj
      (try simp (maxSteps := 1000000) (dsimp := false) (disch := (first | omega | (simp only [okR]; done) | (simp only [sizeR] <;> omega) | fail)) only [↓preR, postR, ↓w_stop, Nat.reduceEqDiff, Nat.reduceAdd, Nat.reduceSub, Nat.reduceMul, Int.reduceNeg, Nat.reduceLT, Int.reduceToNat, Nat.reduceLeDiff, Nat.sub_zero, e13])
      refine rtexts_c (TxS.row h13) (TxS.rep h13 hra) hal ?_
      (try simp (maxSteps := 1000000) (dsimp := false) (disch := (first | omega | (simp only [okR]; done) | (simp only [sizeR] <;> omega) | fail)) only [↓preR, postR, ↓w_stop, Nat.reduceEqDiff, Nat.reduceAdd, Nat.reduceSub, Nat.reduceMul, Int.reduceNeg, Nat.reduceLT, Int.reduceToNat, Nat.reduceLeDiff, Nat.sub_zero])
      refine awake_c h13 fun s11 h14 => ?_
      (try simp (maxSteps := 1000000) (dsimp := false) (disch := (first | omega | (simp only [okR]; done) | (simp only [sizeR] <;> omega) | fail)) only [↓preR, postR, ↓w_join, Nat.reduceEqDiff, Nat.reduceAdd, Nat.reduceSub, Nat.reduceMul, Int.reduceNeg, Nat.reduceLT, Int.reduceToNat, Nat.reduceLeDiff, Nat.sub_zero])
    clear hJ2
    have e0 : allV [] = [] := by simp [allV, listV, sortS]
    have h6 : Hs s4 X (Vm v [122, 101, 114, 111] ⟨ms, 0, []⟩ :: RfL (.slice none 0 0) r [122, 101, 114, 111] (.slice au ms.length ac) 0 (allV []) R) := by rw [e0]; exact h5.rot2
    (try simp (maxSteps := 1000000) (dsimp := false) (disch := (first | omega | (simp only [okR]; done) | (simp only [sizeR] <;> omega) | fail)) only [↓preR, postR, ↓w_stop, Nat.reduceEqDiff, Nat.reduceAdd, Nat.reduceSub, Nat.reduceMul, Int.reduceNeg, Nat.reduceLT, Int.reduceToNat, Nat.reduceLeDiff, Nat.sub_zero])
    refine loop_inv (fun nn xs s => ∃ (j : Nat) (S : VM) (lv av : Value), xs = [.int .i64 j] ∧ j ≤ ops.length ∧ InvV S j ∧ RepL X av S.ar ∧ Hs s X (Vm v [122, 101, 114, 111] S :: RfL lv r [122, 101, 114, 111] av S.st (allV S.l) R) ∧ nn = ops.length - j) _
      ⟨0, ⟨ms, 0, []⟩, .slice none 0 0, _, rfl, Nat.zero_le _, ⟨Nat.le_refl _, ht.1, fun n x h => by cases h⟩, ha, h6, rfl⟩ ?_
    rintro _ _ s5 again ⟨j, S, lv, av, rfl, hj, hI, hra, h6, rfl⟩ hag
    (try simp (maxSteps := 1000000) (dsimp := false) (disch := (first | omega | (simp only [okR]; done) | (simp only [sizeR] <;> omega) | fail)) only [↓preR, postR, ↓w_stop, Nat.reduceEqDiff, Nat.reduceAdd, Nat.reduceSub, Nat.reduceMul, Int.reduceNeg, Nat.reduceLT, Int.reduceToNat, Nat.reduceLeDiff, Nat.sub_zero])
    refine join_now ?_
    by_cases hlt : j < ops.length
    rotate_left
    · (try simp (maxSteps := 1000000) (dsimp := false) (disch := (first | omega | (simp only [okR]; done) | (simp only [sizeR] <;> omega) | fail)) only [↓preR, postR, ↓w_stop, Nat.reduceEqDiff, Nat.reduceAdd, Nat.reduceSub, Nat.reduceMul, Int.reduceNeg, Nat.reduceLT, Int.reduceToNat, Nat.reduceLeDiff, Nat.sub_zero])
      have : j = ops.length := by omega
      subst this
      exact tail2 s5 S lv av hI hra h6
    obtain ⟨rfl, t, hta, hq, hi, hn3, hv3, c0, c1, c2, c3, c4⟩ := hat j hlt
    obtain ⟨f1, f2, f3⟩ := hf.2 _ (List.getElem_mem hlt)
    obtain ⟨ta, tc, rfl, ht'⟩ := hta
    have hta : RepL X (.slice ta ops[j].2.2.2.2.length tc) ops[j].2.2.2.2 := ⟨ta, tc, rfl, ht'⟩
    have g0 := h6.ldx c0
    have g1 := h6.ldx c1
    have g2 := h6.ldx c2
    have g3 := h6.ldx c3
    have g4 := h6.ldx c4
    (try simp (maxSteps := 1000000) (dsimp := false) (disch := (first | omega | (simp only [okR]; done) | (simp only [sizeR] <;> omega) | fail)) only [↓preR, postR, ↓w_stop, Nat.reduceEqDiff, Nat.reduceAdd, Nat.reduceSub, Nat.reduceMul, Int.reduceNeg, Nat.reduceLT, Int.reduceToNat, Nat.reduceLeDiff, Nat.sub_zero])
    refine join_by fun J5 hJ5 => ?_
    have hlen : S.l.length ≤ 1000000 := by have := hI.len; have := hf.1; omega
    (try simp (maxSteps := 1000000) (dsimp := false) (disch := (first | omega | (simp only [okR]; done) | (simp only [sizeR] <;> omega) | fail)) only [↓preR, postR, ↓w_stop, Nat.reduceEqDiff, Nat.reduceAdd, Nat.reduceSub, Nat.reduceMul, Int.reduceNeg, Nat.reduceLT, Int.reduceToNat, Nat.reduceLeDiff, Nat.sub_zero, g0, g1, g2, g3, g4])
    refine do_c (S := S) (q := ops[j].1) (n := ops[j].2.1) (val := ops[j].2.2.1) (i := ops[j].2.2.2.1) (ms := ops[j].2.2.2.2) h6 hq hn3 hi hta (by have := f3.1; omega) fun s6 h7 => ?_
    have ee : doV (ops[j].1, ops[j].2.1, ops[j].2.2.1, ops[j].2.2.2.1, ops[j].2.2.2.2) S = doV ops[j] S := rfl
    rw [ee] at h7 ⊢
    have hI' := hI.step (o := ops[j]) f1 f2 f3
    have hP : NmP S (doV ops[j] S).2 := ⟨hI.all, hlen, Vm.nd h6, Vm.nd h7⟩
    have k0 := h7.ldx c0
    have k1 := h7.ldx c1
    have k2 := h7.ldx c2
    have k3 := h7.ldx c3
    have k4 := h7.ldx c4
    (try simp (maxSteps := 1000000) (dsimp := false) (disch := (first | omega | (simp only [okR]; done) | (simp only [sizeR] <;> omega) | fail)) only [↓preR, postR, ↓w_stop, Nat.reduceEqDiff, Nat.reduceAdd, Nat.reduceSub, Nat.reduceMul, Int.reduceNeg, Nat.reduceLT, Int.reduceToNat, Nat.reduceLeDiff, Nat.sub_zero, k0, k1, k2, k3, k4])
    have h8 : Hs s6 X (RfL lv r [122, 101, 114, 111] av S.st (allV S.l) (Vm v [122, 101, 114, 111] (doV ops[j] S).2 :: R)) := h7.un2
    refine asked_c (S := S) (q := ops[j].1) (n := ops[j].2.1) (val := ops[j].2.2.1) (i := ops[j].2.2.2.1) (ms := ops[j].2.2.2.2) hP (by have := hI.getv ops[j].2.1; unfold maxLen; omega) hra h8 hq hn3 hv3 hi hta fun lv' av' s7 hra' h9 => ?_
    rw [ee] at hra' h9 ⊢
    obtain ⟨e, S', hd⟩ : ∃ e S', doV ops[j] S = (e, S') := ⟨_, _, rfl⟩
    rw [hd] at hra' h9 hI' ⊢
    simp only at hra' h9 hI' ⊢
    (try simp (maxSteps := 1000000) (dsimp := false) (disch := (first | omega | (simp only [okR]; done) | (simp only [sizeR] <;> omega) | fail)) only [↓preR, postR, ↓w_stop, Nat.reduceEqDiff, Nat.reduceAdd, Nat.reduceSub, Nat.reduceMul, Int.reduceNeg, Nat.reduceLT, Int.reduceToNat, Nat.reduceLeDiff, Nat.sub_zero, h9.ldx c1])
    refine get_c (h9.rot2) fun s8 h10 => ?_
    (try simp (maxSteps := 1000000) (dsimp := false) (disch := (first | omega | (simp only [okR]; done) | (simp only [sizeR] <;> omega) | fail)) only [↓preR, postR, ↓w_stop, Nat.reduceEqDiff, Nat.reduceAdd, Nat.reduceSub, Nat.reduceMul, Int.reduceNeg, Nat.reduceLT, Int.reduceToNat, Nat.reduceLeDiff, Nat.sub_zero, h10.ldx c1])
    refine rget_c (h10.un2) fun s9 h11 => ?_
    have e11 := h11.obj1
    have fin : J5 [] s9 := by
      refine hJ5 _ _ ?_
      (try simp (maxSteps := 1000000) (dsimp := false) (disch := (first | omega | (simp only [okR]; done) | (simp only [sizeR] <;> omega) | fail)) only [↓preR, postR, ↓w_stop, Nat.reduceEqDiff, Nat.reduceAdd, Nat.reduceSub, Nat.reduceMul, Int.reduceNeg, Nat.reduceLT, Int.reduceToNat, Nat.reduceLeDiff, Nat.sub_zero])
      exact hag _ _ _ ⟨j + 1, S', lv', av', rfl, hlt, hI', hra', h11.rot2, rfl⟩ (by omega)
    cases hb : (getV S'.l ops[j].2.1).set with
    | true =>
      (try simp (maxSteps := 1000000) (dsimp := false) (disch := (first | omega | (simp only [okR]; done) | (simp only [sizeR] <;> omega) | fail)) only [↓preR, postR, ↓w_stop, Nat.reduceEqDiff, Nat.reduceAdd, Nat.reduceSub, Nat.reduceMul, Int.reduceNeg, Nat.reduceLT, Int.reduceToNat, Nat.reduceLeDiff, Nat.sub_zero, e11, hb])
      refine status_c h11.rot2 ?_
      (try simp (maxSteps := 1000000) (dsimp := false) (disch := (first | omega | (simp only [okR]; done) | (simp only [sizeR] <;> omega) | fail)) only [↓preR, postR, ↓w_stop, Nat.reduceEqDiff, Nat.reduceAdd, Nat.reduceSub, Nat.reduceMul, Int.reduceNeg, Nat.reduceLT, Int.reduceToNat, Nat.reduceLeDiff, Nat.sub_zero, e11])
      exact fin
    | false =>
      (try simp (maxSteps := 1000000) (dsimp := false) (disch := (first | omega | (simp only [okR]; done) | (simp only [sizeR] <;> omega) | fail)) only [↓preR, postR, ↓w_stop, Nat.reduceEqDiff, Nat.reduceAdd, Nat.reduceSub, Nat.reduceMul, Int.reduceNeg, Nat.reduceLT, Int.reduceToNat, Nat.reduceLeDiff, Nat.sub_zero, e11, hb])
      refine status_c h11.rot2 ?_
      (try simp (maxSteps := 1000000) (dsimp := false) (disch := (first | omega | (simp only [okR]; done) | (simp only [sizeR] <;> omega) | fail)) only [↓preR, postR, ↓w_stop, Nat.reduceEqDiff, Nat.reduceAdd, Nat.reduceSub, Nat.reduceMul, Int.reduceNeg, Nat.reduceLT, Int.reduceToNat, Nat.reduceLeDiff, Nat.sub_zero, e11])
      exact fin
  clear hJ
  (try simp (maxSteps := 1000000) (dsimp := false) (disch := (first | omega | (simp only [okR]; done) | (simp only [sizeR] <;> omega) | fail)) only [↓preR, postR, ↓w_stop, Nat.reduceEqDiff, Nat.reduceAdd, Nat.reduceSub, Nat.reduceMul, Int.reduceNeg, Nat.reduceLT, Int.reduceToNat, Nat.reduceLeDiff, Nat.sub_zero])
  refine texts_c h ha (fun ht => ?_) ?_
  · (try simp (maxSteps := 1000000) (dsimp := false) (disch := (first | omega | (simp only [okR]; done) | (simp only [sizeR] <;> omega) | fail)) only [↓preR, postR, ↓w_stop, Nat.reduceEqDiff, Nat.reduceAdd, Nat.reduceSub, Nat.reduceMul, Int.reduceNeg, Nat.reduceLT, Int.reduceToNat, Nat.reduceLeDiff, Nat.sub_zero])
    refine few_c h hr (fun hf => ?_) ?_
    · (try simp (maxSteps := 1000000) (dsimp := false) (disch := (first | omega | (simp only [okR]; done) | (simp only [sizeR] <;> omega) | fail)) only [↓preR, postR, ↓w_stop, Nat.reduceEqDiff, Nat.reduceAdd, Nat.reduceSub, Nat.reduceMul, Int.reduceNeg, Nat.reduceLT, Int.reduceToNat, Nat.reduceLeDiff, Nat.sub_zero])
      exact tail ht hf
    · (try simp (maxSteps := 1000000) (dsimp := false) (disch := (first | omega | (simp only [okR]; done) | (simp only [sizeR] <;> omega) | fail)) only [↓preR, postR, ↓w_stop, Nat.reduceEqDiff, Nat.reduceAdd, Nat.reduceSub, Nat.reduceMul, Int.reduceNeg, Nat.reduceLT, Int.reduceToNat, Nat.reduceLeDiff, Nat.sub_zero])
      refine awake_c h fun s5 h5 => ?_
      (try simp (maxSteps := 1000000) (dsimp := false) (disch := (first | omega | (simp only [okR]; done) | (simp only [sizeR] <;> omega) | fail)) only [↓preR, postR, ↓w_join, Nat.reduceEqDiff, Nat.reduceAdd, Nat.reduceSub, Nat.reduceMul, Int.reduceNeg, Nat.reduceLT, Int.reduceToNat, Nat.reduceLeDiff, Nat.sub_zero])
  · (try simp (maxSteps := 1000000) (dsimp := false) (disch := (first | omega | (simp only [okR]; done) | (simp only [sizeR] <;> omega) | fail)) only [↓preR, postR, ↓w_stop, Nat.reduceEqDiff, Nat.reduceAdd, Nat.reduceSub, Nat.reduceMul, Int.reduceNeg, Nat.reduceLT, Int.reduceToNat, Nat.reduceLeDiff, Nat.sub_zero])
    refine awake_c h fun s5 h5 => ?_
    (try simp (maxSteps := 1000000) (dsimp := false) (disch := (first | omega | (simp only [okR]; done) | (simp only [sizeR] <;> omega) | fail)) only [↓preR, postR, ↓w_join, Nat.reduceEqDiff, Nat.reduceAdd, Nat.reduceSub, Nat.reduceMul, Int.reduceNeg, Nat.reduceLT, Int.reduceToNat, Nat.reduceLeDiff, Nat.sub_zero])
theorem plays_law {v0 v1 : Value} {c : Ce} (h : Hs σ c []) (A0 : OV c (shOf Tryz.prog 8 29) v0) (A1 : OV c (shOf Tryz.prog 8 22) v1) :
    kCall Tryz.prog 5 [v0, v1] σ fun v _ => v = .bool true := by
  rw [show shOf Tryz.prog 8 29 = .slice .str 1 from by kernel_rfl] at A0
  obtain ⟨ms, h0⟩ := arg_list (α := Str) A0
  obtain ⟨ops, h1⟩ := opsL A1
  exact plays_walk h h0 h1
end
end Go.Proofs.YtkpnackmijjciaaGreatDoor
