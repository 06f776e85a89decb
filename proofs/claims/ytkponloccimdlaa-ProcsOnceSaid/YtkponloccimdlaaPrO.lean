/- Processes: each that ended is taken up once at most. Conditions: as each theorem says. -/
import Derived.Test.YtkponloccimdlaaPrT
namespace Go.Proofs.Ytkponloccimdlaa
open E Go.Lib PT
set_option linter.unusedVariables false
set_option linter.unusedSimpArgs false
set_option maxHeartbeats 1000000
set_option maxRecDepth 20000

def arr {α : Type} (enc : α → Value) (f : Nat → α) : List Value := (List.range 51).map fun i => enc (f i)
def upN {α : Type} (f : Nat → α) (n : Nat) (a : α) : Nat → α := fun i => if i = n then a else f i
theorem arr_len {α : Type} (enc : α → Value) (f : Nat → α) : (arr enc f).length = 51 := by simp [arr]
theorem arr_get {α : Type} (enc : α → Value) (f : Nat → α) (n : Nat) (h : n < 51) : (arr enc f)[n]? = some (enc (f n)) := by simp [arr, h]
theorem arr_set {α : Type} (enc : α → Value) (f : Nat → α) (n : Nat) (a : α) : (arr enc f).set n (enc a) = arr enc (upN f n a) := by
  apply List.ext_getElem?
  intro i
  rw [List.getElem?_set]
  by_cases hi : i < 51
  · rw [arr_get _ _ _ hi, arr_get _ _ _ hi, arr_len]
    unfold upN
    by_cases h : n = i
    · subst h; simp [hi]
    · simp [h, Ne.symm h]
  · have h1 : (arr enc f)[i]? = none := List.getElem?_eq_none (by rw [arr_len]; omega)
    have h2 : (arr enc (upN f n a))[i]? = none := List.getElem?_eq_none (by rw [arr_len]; omega)
    rw [h1, h2, arr_len]
    split
    · rename_i h; subst h; simp [hi]
    · rfl
abbrev eI (n : Int) : Value := .int .i64 n
section
variable {σ σ' : AS} {X : Ce} {R : List Ck} {k : Value → AS → Prop} {t r : Nat} {most : Int} {l : Tl}
theorem orphans_c (h : Hs σ X (TH t r 50 none l R)) (hi : Inv (vw l) 50) (hk : ∀ σ', Hs σ' X (TH t r 50 none l R) → k (.bool true) σ') : kCall Try.prog 11 [pp t] σ k := by
  refine f11 ?_
  (try simp (maxSteps := 1000000) (dsimp := false) (disch := (first | omega | (simp only [okR]; done) | (simp only [sizeR] <;> omega) | fail)) only [↓preR, postR, ↓w_join, Nat.reduceEqDiff, Nat.reduceAdd, Nat.reduceSub, Nat.reduceMul, Int.reduceNeg, Nat.reduceLT, Int.reduceToNat, Nat.reduceLeDiff, Nat.sub_zero, F11])
  refine loop_inv (fun n xs s => ∃ p : Nat, xs = [.int .i64 ((p : Int) + 1)] ∧ p ≤ 50 ∧ Hs s X (TH t r 50 none l R) ∧ n = 50 - p) _ ⟨0, rfl, by omega, h, rfl⟩ ?_
  rintro n _ s again ⟨p, rfl, hp, h4, rfl⟩ hag
  by_cases hp50 : p < 50
  · have nxt : ∀ s', Hs s' X (TH t r 50 none l R) → again [.int .i64 ((p : Int) + 1 + 1)] s' := fun s' h' => hag _ _ _ ⟨p + 1, by simp, by omega, h', rfl⟩ (by omega)
    (simp (maxSteps := 1000000) (dsimp := false) (disch := (first | omega | (simp only [okR]; done) | (simp only [sizeR] <;> omega) | fail)) only [↓preR, postR, ↓w_join, Nat.reduceEqDiff, Nat.reduceAdd, Nat.reduceSub, Nat.reduceMul, Int.reduceNeg, Nat.reduceLT, Int.reduceToNat, Nat.reduceLeDiff, Nat.sub_zero])
    refine state_c h4 fun σ1 h1 => ?_
    by_cases hz : ((vw l).get ((p : Int) + 1)).st = 3
    · cases hf : vw l ((p : Int) + 1) with
      | none => rw [get_none hf] at hz; cases hz
      | some c =>
        rw [get_some hf] at hz ⊢
        obtain ⟨d, hd, hds⟩ := PV.liv_iff.1 ((hi.par _ c hf).resolve_left (hi.zom _ c hf hz))
        have hdst := hi.st _ d hd
        (simp (maxSteps := 1000000) (dsimp := false) (disch := (first | omega | (simp only [okR]; done) | (simp only [sizeR] <;> omega) | fail)) only [↓preR, postR, ↓w_join, Nat.reduceEqDiff, Nat.reduceAdd, Nat.reduceSub, Nat.reduceMul, Int.reduceNeg, Nat.reduceLT, Int.reduceToNat, Nat.reduceLeDiff, Nat.sub_zero])
        refine parent_c h1 fun σ2 h2 => ?_
        rw [get_some hf]
        (try simp (maxSteps := 1000000) (dsimp := false) (disch := (first | omega | (simp only [okR]; done) | (simp only [sizeR] <;> omega) | fail)) only [↓preR, postR, ↓w_join, Nat.reduceEqDiff, Nat.reduceAdd, Nat.reduceSub, Nat.reduceMul, Int.reduceNeg, Nat.reduceLT, Int.reduceToNat, Nat.reduceLeDiff, Nat.sub_zero])
        refine state_c h2 fun σ3 h3 => ?_
        rw [get_some hd]
        by_cases h1' : d.st = 1
        · (try simp (maxSteps := 1000000) (dsimp := false) (disch := (first | omega | (simp only [okR]; done) | (simp only [sizeR] <;> omega) | fail)) only [↓preR, postR, ↓w_join, Nat.reduceEqDiff, Nat.reduceAdd, Nat.reduceSub, Nat.reduceMul, Int.reduceNeg, Nat.reduceLT, Int.reduceToNat, Nat.reduceLeDiff, Nat.sub_zero]); exact nxt _ h3
        · have h2' : d.st = 2 := by omega
          (try simp (maxSteps := 1000000) (dsimp := false) (disch := (first | omega | (simp only [okR]; done) | (simp only [sizeR] <;> omega) | fail)) only [↓preR, postR, ↓w_join, Nat.reduceEqDiff, Nat.reduceAdd, Nat.reduceSub, Nat.reduceMul, Int.reduceNeg, Nat.reduceLT, Int.reduceToNat, Nat.reduceLeDiff, Nat.sub_zero]); exact nxt _ h3
    · (try simp (maxSteps := 1000000) (dsimp := false) (disch := (first | omega | (simp only [okR]; done) | (simp only [sizeR] <;> omega) | fail)) only [↓preR, postR, ↓w_join, Nat.reduceEqDiff, Nat.reduceAdd, Nat.reduceSub, Nat.reduceMul, Int.reduceNeg, Nat.reduceLT, Int.reduceToNat, Nat.reduceLeDiff, Nat.sub_zero])
      exact nxt _ h1
  · (try simp (maxSteps := 1000000) (dsimp := false) (disch := (first | omega | (simp only [okR]; done) | (simp only [sizeR] <;> omega) | fail)) only [↓preR, postR, ↓w_join, Nat.reduceEqDiff, Nat.reduceAdd, Nat.reduceSub, Nat.reduceMul, Int.reduceNeg, Nat.reduceLT, Int.reduceToNat, Nat.reduceLeDiff, Nat.sub_zero])
    exact hk _ h4
/-- What is noted of each that has ended. -/
def Noted (f : PV) (wf : Nat → Bool) (ef : Nat → Int) : Prop := ∀ i c, f i = some c → c.st = 3 → wf i.toNat = true ∧ ef i.toNat = c.sta
theorem once_walk {v0 : Value} {ops : List Op3} (h0 : RepL X v0 ops) (h : Hs σ X []) : kCall Try.prog 3 [v0] σ fun v _ => v = .bool true := by
  obtain ⟨va, vb, vo, vc, rfl, hle, hmx, hat⟩ := ops_get h0
  unfold maxLen at hmx
  refine f3 ?_
  (try simp (maxSteps := 1000000) (dsimp := false) (disch := (first | omega | (simp only [okR]; done) | (simp only [sizeR] <;> omega) | fail)) only [↓preR, postR, ↓w_join, Nat.reduceEqDiff, Nat.reduceAdd, Nat.reduceSub, Nat.reduceMul, Int.reduceNeg, Nat.reduceLT, Int.reduceToNat, Nat.reduceLeDiff, Nat.sub_zero, F3])
  refine new_c h (fun t r σ1 _ _ h1 => ?_) (fun hx => by omega)
  (try simp (maxSteps := 1000000) (dsimp := false) (disch := (first | omega | (simp only [okR]; done) | (simp only [sizeR] <;> omega) | fail)) only [↓preR, postR, ↓w_join, Nat.reduceEqDiff, Nat.reduceAdd, Nat.reduceSub, Nat.reduceMul, Int.reduceNeg, Nat.reduceLT, Int.reduceToNat, Nat.reduceLeDiff, Nat.sub_zero])
  have h2 := (h1.new (cs := List.replicate 51 (.int .i64 0))).un3.new (cs := List.replicate 51 (.bool false)) |>.un3
  have e1 : List.replicate 51 (.int .i64 0) = arr eI (fun _ => 0) := rfl
  have e2 : List.replicate 51 (.bool false) = arr Value.bool (fun _ => false) := rfl
  rw [e1, e2] at h2 ⊢
  generalize σ1.n = eb at h2 ⊢
  generalize hwb : (σ1.new _).n = wb at h2 ⊢
  refine loop_inv (fun n xs s => ∃ i l wf ef, xs = [.int .i64 (i : Nat)] ∧ i ≤ 100 ∧ i ≤ ops.length ∧ Hs s X (TH t r 50 none l [Cel wb (arr .bool wf), Cel eb (arr eI ef)]) ∧ Inv (vw l) 50 ∧ Noted (vw l) wf ef ∧ n = 100 - i) _ ⟨0, [], _, _, rfl, by omega, by omega, h2, PV.inv_zero, fun i c hc => (by cases hc), rfl⟩ ?_
  clear hwb
  rintro n _ s again ⟨i, l, wf, ef, rfl, hi, hil, h3, hinv, hno, rfl⟩ hag
  by_cases hc : i < ops.length ∧ i < 100
  rotate_left
  · have fin : kCall Try.prog 12 [] s (fun v s => v = .bool true) := awake_c h3 fun σ' => rfl
    by_cases hlt : i < ops.length
    · have hl' : (i : Int) < ops.length := by omega
      have : ¬ (i : Int) < 100 := by omega
      (try simp (maxSteps := 1000000) (dsimp := false) (disch := (first | omega | (simp only [okR]; done) | (simp only [sizeR] <;> omega) | fail)) only [↓preR, postR, ↓w_join, Nat.reduceEqDiff, Nat.reduceAdd, Nat.reduceSub, Nat.reduceMul, Int.reduceNeg, Nat.reduceLT, Int.reduceToNat, Nat.reduceLeDiff, Nat.sub_zero])
      exact fin
    · have hl' : ¬ (i : Int) < ops.length := by omega
      (try simp (maxSteps := 1000000) (dsimp := false) (disch := (first | omega | (simp only [okR]; done) | (simp only [sizeR] <;> omega) | fail)) only [↓preR, postR, ↓w_join, Nat.reduceEqDiff, Nat.reduceAdd, Nat.reduceSub, Nat.reduceMul, Int.reduceNeg, Nat.reduceLT, Int.reduceToNat, Nat.reduceLeDiff, Nat.sub_zero])
      exact fin
  obtain ⟨hlt, h100⟩ := hc
  obtain ⟨rfl, x0, x1, x2⟩ := hat i hlt
  have y0 := h3.ldx x0
  have y1 := h3.ldx x1
  have y2 := h3.ldx x2
  have hl' : (i : Int) < ops.length := by omega
  generalize ops[i].1 = ask at x0 x1 x2 y0 y1 y2
  generalize ops[i].2.1 = p at x0 x1 x2 y0 y1 y2
  generalize ops[i].2.2 = nn at x0 x1 x2 y0 y1 y2
  (simp (maxSteps := 1000000) (dsimp := false) (disch := (first | omega | (simp only [okR]; done) | (simp only [sizeR] <;> omega) | fail)) only [↓preR, postR, ↓w_join, Nat.reduceEqDiff, Nat.reduceAdd, Nat.reduceSub, Nat.reduceMul, Int.reduceNeg, Nat.reduceLT, Int.reduceToNat, Nat.reduceLeDiff, Nat.sub_zero, y0, y1, y2])
  have h4 := (h3.new (cs := [.int .i64 0, .int .i64 0, .int .i64 0])).put (cs' := [.int .i64 ask, .int .i64 p, .int .i64 nn]) |>.un3
  clear y0 y1 y2 h3 x0 x1 x2
  generalize s.n = ob at h4 ⊢
  generalize AS.put _ ob _ = s4 at h4 ⊢
  refine do_c h4 hinv (by decide) fun a b e l' σ3 hdo h5 => ?_
  have hinv' := hdo.inv hinv
  have nxt : ∀ s' wf' ef', Hs s' X (TH t r 50 none l' [Cel ob [.int .i64 ask, .int .i64 p, .int .i64 nn], Cel wb (arr .bool wf'), Cel eb (arr eI ef')]) → Noted (vw l') wf' ef' → again [.int .i64 ((i : Int) + 1)] s' := fun s' wf' ef' h' hn' =>
    hag _ _ _ ⟨i + 1, l', wf', ef', by simp, by omega, by omega, (h'.rot3).drop, hinv', hn', rfl⟩ (by omega)
  clear hag
  rcases hdo with ⟨he, rfl, rfl, hv⟩ | ⟨ha, rfl, rfl, h6, h7, h8, h9, hv⟩ | ⟨rfl, rfl, rfl, hv⟩ | ⟨ha, rfl, rfl, rfl, h6, w, h7, hv⟩ | ⟨g0, g1, g2, g3, rfl, c, h6, h7, h8, rfl, hv⟩
  · (try simp (maxSteps := 1000000) (dsimp := false) (disch := (first | omega | (simp only [okR]; done) | (simp only [sizeR] <;> omega) | fail)) only [↓preR, postR, ↓w_join, Nat.reduceEqDiff, Nat.reduceAdd, Nat.reduceSub, Nat.reduceMul, Int.reduceNeg, Nat.reduceLT, Int.reduceToNat, Nat.reduceLeDiff, Nat.sub_zero])
    exact nxt _ wf ef h5 (by rw [hv]; exact hno)
  · have hnoted : Noted (vw l') (upN wf a.toNat false) ef := by
      intro j c hj hz
      rw [hv] at hj
      unfold PV.put at hj
      split at hj
      · injection hj with hj; subst hj; cases hz
      · rename_i hne
        have hk := hinv.keys j c hj
        have : j.toNat ≠ a.toNat := by omega
        unfold upN
        rw [if_neg this]
        exact hno j c hj hz
    have hfa : vw l' a = some ⟨1, p, 0⟩ := by rw [hv]; unfold PV.put; rw [if_pos rfl]
    (simp (maxSteps := 1000000) (dsimp := false) (disch := (first | omega | (simp only [okR]; done) | (simp only [sizeR] <;> omega) | fail)) only [↓preR, postR, ↓w_join, Nat.reduceEqDiff, Nat.reduceAdd, Nat.reduceSub, Nat.reduceMul, Int.reduceNeg, Nat.reduceLT, Int.reduceToNat, Nat.reduceLeDiff, Nat.sub_zero, h5.obj3])
    refine state_c h5 fun σ6 h6' => ?_
    rw [get_some hfa]
    (simp (maxSteps := 1000000) (dsimp := false) (disch := (first | omega | (simp only [okR]; done) | (simp only [sizeR] <;> omega) | fail)) only [↓preR, postR, ↓w_join, Nat.reduceEqDiff, Nat.reduceAdd, Nat.reduceSub, Nat.reduceMul, Int.reduceNeg, Nat.reduceLT, Int.reduceToNat, Nat.reduceLeDiff, Nat.sub_zero, h6'.obj3])
    refine parent_c h6' fun σ7 h7' => ?_
    rw [get_some hfa]
    have hm := h7'.celAt 4 rfl
    (simp (maxSteps := 1000000) (dsimp := false) (disch := (first | omega | (simp only [okR]; done) | (simp only [sizeR] <;> omega) | fail)) only [↓preR, postR, ↓w_join, Nat.reduceEqDiff, Nat.reduceAdd, Nat.reduceSub, Nat.reduceMul, Int.reduceNeg, Nat.reduceLT, Int.reduceToNat, Nat.reduceLeDiff, Nat.sub_zero, h7'.obj3, hm, arr_len])
    have h8' := h7'.putAt 4 (cs' := (arr .bool wf).set a.toNat (.bool false)) rfl
    rw [arr_set] at h8' ⊢
    refine orphans_c h8' hinv' fun σ9 h9' => ?_
    (try simp (maxSteps := 1000000) (dsimp := false) (disch := (first | omega | (simp only [okR]; done) | (simp only [sizeR] <;> omega) | fail)) only [↓preR, postR, ↓w_join, Nat.reduceEqDiff, Nat.reduceAdd, Nat.reduceSub, Nat.reduceMul, Int.reduceNeg, Nat.reduceLT, Int.reduceToNat, Nat.reduceLeDiff, Nat.sub_zero])
    exact nxt _ _ _ h9' hnoted
  · have hnoted : Noted (vw l') wf ef := by
      intro j c hj hz
      have key : ∀ s : Int, s ≠ 3 → vw l' = (vw l).turn p s → vw l j = some c := by
        intro s hs hv
        rw [hv, PV.turn_at] at hj
        split at hj
        · cases hf : vw l p with
          | none => rw [hf] at hj; cases hj
          | some d => rw [hf] at hj; injection hj with hj; subst hj; exact absurd hz hs
        · exact hj
      rcases hv with ⟨_, hv⟩ | ⟨_, hv⟩
      · exact hno j c (key 2 (by decide) hv) hz
      · exact hno j c (key 1 (by decide) hv) hz
    have ha : ask = 1 ∨ ask = 2 := hv.imp (·.1) (·.1)
    (simp (maxSteps := 1000000) (dsimp := false) (disch := (first | omega | (simp only [okR]; done) | (simp only [sizeR] <;> omega) | fail)) only [↓preR, postR, ↓w_join, Nat.reduceEqDiff, Nat.reduceAdd, Nat.reduceSub, Nat.reduceMul, Int.reduceNeg, Nat.reduceLT, Int.reduceToNat, Nat.reduceLeDiff, Nat.sub_zero, h5.obj3])
    refine orphans_c h5 hinv' fun σ9 h9' => ?_
    (try simp (maxSteps := 1000000) (dsimp := false) (disch := (first | omega | (simp only [okR]; done) | (simp only [sizeR] <;> omega) | fail)) only [↓preR, postR, ↓w_join, Nat.reduceEqDiff, Nat.reduceAdd, Nat.reduceSub, Nat.reduceMul, Int.reduceNeg, Nat.reduceLT, Int.reduceToNat, Nat.reduceLeDiff, Nat.sub_zero])
    exact nxt _ _ _ h9' hnoted
  · obtain ⟨q, hq, hqs⟩ := PV.liv_iff.1 h6
    obtain ⟨e1, e2, e3⟩ := PV.exit_at hinv hq hqs h7
    have hk := hinv.keys p q hq
    have hsp : ((vw l').get p).st = 0 ∨ ((vw l').get p).st = 3 := by
      unfold PV.get
      rw [hv, e1]
      split
      · exact .inl rfl
      · exact .inr rfl
    have hnoted : Noted (vw l') (upN wf p.toNat (decide (((vw l').get p).st = 3))) (upN ef p.toNat nn) := by
      intro j c hj hz
      by_cases hjp : j = p
      · subst hjp
        rw [hv, e1] at hj
        split at hj
        · cases hj
        · rename_i h0
          injection hj with hj
          subst hj
          have : (vw l').get j = ⟨3, q.par, nn⟩ := by unfold PV.get; rw [hv, e1, if_neg h0]; rfl
          unfold upN
          rw [if_pos rfl, if_pos rfl, this]
          exact ⟨rfl, rfl⟩
      · have hz' : vw l j = some c ∨ ∃ d, vw l j = some d ∧ d.st = 3 ∧ d.sta = c.sta := by
          rw [hv] at hj
          cases hb : (vw l j).bind (PV.swept ((vw l).heirOf p) p) with
          | none => rw [e2 j hjp hb] at hj; cases hj
          | some c0 =>
            obtain ⟨st, h1, h2⟩ := e3 j c0 hjp hb
            rw [h1] at hj
            injection hj with hj
            subst hj
            cases hf : vw l j with
            | none => rw [hf] at hb; cases hb
            | some d =>
              rw [hf] at hb
              have hb : PV.swept ((vw l).heirOf p) p d = some c0 := hb
              have hst : c0.st = 3 := by
                rcases h2 with rfl | ⟨_, rfl⟩
                · exact hz
                · cases hz
              unfold PV.swept at hb
              refine .inr ⟨d, rfl, ?_⟩
              split at hb
              · split at hb
                · cases hb
                · injection hb with hb; subst hb; exact ⟨hst, rfl⟩
              · injection hb with hb; subst hb; exact ⟨hst, rfl⟩
        have hk' : 1 ≤ j := by
          rcases hz' with hz' | ⟨d, hd, _⟩
          · exact (hinv.keys j c hz').1
          · exact (hinv.keys j d hd).1
        have hne : j.toNat ≠ p.toNat := by omega
        unfold upN
        rw [if_neg hne, if_neg hne]
        rcases hz' with hz' | ⟨d, hd, h1, h2⟩
        · exact hno j c hz' hz
        · rw [← h2]; exact hno j d hd h1
    (simp (maxSteps := 1000000) (dsimp := false) (disch := (first | omega | (simp only [okR]; done) | (simp only [sizeR] <;> omega) | fail)) only [↓preR, postR, ↓w_join, Nat.reduceEqDiff, Nat.reduceAdd, Nat.reduceSub, Nat.reduceMul, Int.reduceNeg, Nat.reduceLT, Int.reduceToNat, Nat.reduceLeDiff, Nat.sub_zero, h5.obj3])
    refine state_c h5 fun σ6 h6' => ?_
    (simp (maxSteps := 1000000) (dsimp := false) (disch := (first | omega | (simp only [okR]; done) | (simp only [sizeR] <;> omega) | fail)) only [↓preR, postR, ↓w_join, Nat.reduceEqDiff, Nat.reduceAdd, Nat.reduceSub, Nat.reduceMul, Int.reduceNeg, Nat.reduceLT, Int.reduceToNat, Nat.reduceLeDiff, Nat.sub_zero, h6'.obj3])
    refine state_c h6' fun σ7 h7' => ?_
    (simp (maxSteps := 1000000) (dsimp := false) (disch := (first | omega | (simp only [okR]; done) | (simp only [sizeR] <;> omega) | fail)) only [↓preR, postR, ↓w_join, Nat.reduceEqDiff, Nat.reduceAdd, Nat.reduceSub, Nat.reduceMul, Int.reduceNeg, Nat.reduceLT, Int.reduceToNat, Nat.reduceLeDiff, Nat.sub_zero, h7'.obj3])
    refine state_c h7' fun σ8 h8' => ?_
    have hm := h8'.celAt 4 rfl
    (simp (maxSteps := 1000000) (dsimp := false) (disch := (first | omega | (simp only [okR]; done) | (simp only [sizeR] <;> omega) | fail)) only [↓preR, postR, ↓w_join, Nat.reduceEqDiff, Nat.reduceAdd, Nat.reduceSub, Nat.reduceMul, Int.reduceNeg, Nat.reduceLT, Int.reduceToNat, Nat.reduceLeDiff, Nat.sub_zero, h8'.obj3, hm, arr_len])
    have h9' := h8'.putAt 4 (cs' := (arr .bool wf).set p.toNat (.bool (decide (((vw l').get p).st = 3)))) rfl
    generalize AS.put _ wb _ = σ9 at h9' ⊢
    rw [arr_set] at h9'
    have hm2 := h9'.celAt 5 rfl
    (simp (maxSteps := 1000000) (dsimp := false) (disch := (first | omega | (simp only [okR]; done) | (simp only [sizeR] <;> omega) | fail)) only [↓preR, postR, ↓w_join, Nat.reduceEqDiff, Nat.reduceAdd, Nat.reduceSub, Nat.reduceMul, Int.reduceNeg, Nat.reduceLT, Int.reduceToNat, Nat.reduceLeDiff, Nat.sub_zero, h9'.obj3, hm2, arr_len])
    have h10 := h9'.putAt 5 (cs' := (arr eI ef).set p.toNat (eI nn)) rfl
    generalize AS.put _ eb _ = σ10 at h10 ⊢
    rw [arr_set] at h10
    refine orphans_c h10 hinv' fun σ11 h11 => ?_
    (try simp (maxSteps := 1000000) (dsimp := false) (disch := (first | omega | (simp only [okR]; done) | (simp only [sizeR] <;> omega) | fail)) only [↓preR, postR, ↓w_join, Nat.reduceEqDiff, Nat.reduceAdd, Nat.reduceSub, Nat.reduceMul, Int.reduceNeg, Nat.reduceLT, Int.reduceToNat, Nat.reduceLeDiff, Nat.sub_zero])
    exact nxt _ _ _ h11 hnoted
  · have hk := hinv.keys a c h6
    obtain ⟨hw1, hw2⟩ := hno a c h6 h8
    have hsub : ∀ j d, vw l' j = some d → vw l j = some d ∧ j ≠ a := by
      intro j d hj
      rw [hv] at hj
      unfold PV.put at hj
      split at hj
      · cases hj
      · rename_i hne; exact ⟨hj, hne⟩
    by_cases h4' : ask = 4
    · have hfa : vw l' a = none := by rw [hv]; unfold PV.put; rw [if_pos rfl]
      have hnoted : Noted (vw l') (upN wf a.toNat false) ef := by
        intro j d hj hz
        obtain ⟨h1, h2⟩ := hsub j d hj
        have := hinv.keys j d h1
        have hne : j.toNat ≠ a.toNat := by omega
        unfold upN
        rw [if_neg hne]
        exact hno j d h1 hz
      have hm := h5.celAt 4 rfl
      have hm2 := h5.celAt 5 rfl
      (simp (maxSteps := 1000000) (dsimp := false) (disch := (first | omega | (simp only [okR]; done) | (simp only [sizeR] <;> omega) | fail)) only [↓preR, postR, ↓w_join, Nat.reduceEqDiff, Nat.reduceAdd, Nat.reduceSub, Nat.reduceMul, Int.reduceNeg, Nat.reduceLT, Int.reduceToNat, Nat.reduceLeDiff, Nat.sub_zero, h5.obj3, hm, hm2, arr_get, hw1, hw2])
      refine state_c h5 fun σ6 h6' => ?_
      rw [get_none hfa]
      have hm3 := h6'.celAt 4 rfl
      have h8' := h6'.putAt 4 (cs' := (arr .bool wf).set a.toNat (.bool false)) rfl
      rcases h7.2 with hn0 | hn0
      · (simp (maxSteps := 1000000) (dsimp := false) (disch := (first | omega | (simp only [okR]; done) | (simp only [sizeR] <;> omega) | fail)) only [↓preR, postR, ↓w_join, Nat.reduceEqDiff, Nat.reduceAdd, Nat.reduceSub, Nat.reduceMul, Int.reduceNeg, Nat.reduceLT, Int.reduceToNat, Nat.reduceLeDiff, Nat.sub_zero, h6'.obj3, hm3, arr_len])
        generalize AS.put _ wb _ = σ9 at h8' ⊢
        rw [arr_set] at h8'
        refine orphans_c h8' hinv' fun σ11 h11 => ?_
        (try simp (maxSteps := 1000000) (dsimp := false) (disch := (first | omega | (simp only [okR]; done) | (simp only [sizeR] <;> omega) | fail)) only [↓preR, postR, ↓w_join, Nat.reduceEqDiff, Nat.reduceAdd, Nat.reduceSub, Nat.reduceMul, Int.reduceNeg, Nat.reduceLT, Int.reduceToNat, Nat.reduceLeDiff, Nat.sub_zero])
        exact nxt _ _ _ h11 hnoted
      · (simp (maxSteps := 1000000) (dsimp := false) (disch := (first | omega | (simp only [okR]; done) | (simp only [sizeR] <;> omega) | fail)) only [↓preR, postR, ↓w_join, Nat.reduceEqDiff, Nat.reduceAdd, Nat.reduceSub, Nat.reduceMul, Int.reduceNeg, Nat.reduceLT, Int.reduceToNat, Nat.reduceLeDiff, Nat.sub_zero, h6'.obj3, hm3, arr_len])
        generalize AS.put _ wb _ = σ9 at h8' ⊢
        rw [arr_set] at h8'
        refine orphans_c h8' hinv' fun σ11 h11 => ?_
        (try simp (maxSteps := 1000000) (dsimp := false) (disch := (first | omega | (simp only [okR]; done) | (simp only [sizeR] <;> omega) | fail)) only [↓preR, postR, ↓w_join, Nat.reduceEqDiff, Nat.reduceAdd, Nat.reduceSub, Nat.reduceMul, Int.reduceNeg, Nat.reduceLT, Int.reduceToNat, Nat.reduceLeDiff, Nat.sub_zero])
        exact nxt _ _ _ h11 hnoted
    · have hnoted : Noted (vw l') wf ef := fun j d hj hz => hno j d (hsub j d hj).1 hz
      (simp (maxSteps := 1000000) (dsimp := false) (disch := (first | omega | (simp only [okR]; done) | (simp only [sizeR] <;> omega) | fail)) only [↓preR, postR, ↓w_join, Nat.reduceEqDiff, Nat.reduceAdd, Nat.reduceSub, Nat.reduceMul, Int.reduceNeg, Nat.reduceLT, Int.reduceToNat, Nat.reduceLeDiff, Nat.sub_zero, h5.obj3])
      refine orphans_c h5 hinv' fun σ9 h9' => ?_
      (try simp (maxSteps := 1000000) (dsimp := false) (disch := (first | omega | (simp only [okR]; done) | (simp only [sizeR] <;> omega) | fail)) only [↓preR, postR, ↓w_join, Nat.reduceEqDiff, Nat.reduceAdd, Nat.reduceSub, Nat.reduceMul, Int.reduceNeg, Nat.reduceLT, Int.reduceToNat, Nat.reduceLeDiff, Nat.sub_zero])
      exact nxt _ _ _ h9' hnoted
theorem once_law {w : World} {v0 : Value} (A0 : OV (E.start w).c (shOf Try.prog 8 22) v0) : kCall Try.prog 3 [v0] (E.start w) fun v _ => v = .bool true := by
  obtain ⟨l, hl⟩ := ops_arg A0
  exact once_walk hl (Hs.start w)
end
end Go.Proofs.Ytkponloccimdlaa
