/- Processes: Exit and Wait, whatever the order of a range. Conditions: as each theorem says. -/
import Derived.Test.YtkponloccimdlaaPrD
namespace Go.Proofs.Ytkponloccimdlaa
open E Go.Lib PT
set_option linter.unusedVariables false
set_option linter.unusedSimpArgs false
set_option maxHeartbeats 1000000
set_option maxRecDepth 20000

namespace PV
/-- What becomes of a process's children, if they are gone through: those of vis. -/
def swept (heir pid : Int) (c : Pr) : Option Pr := if c.par = pid then (if c.st = 3 ∧ heir = 0 then none else some ⟨c.st, heir, c.sta⟩) else some c
def sweep (f : PV) (heir pid : Int) (vis : List Int) : PV := fun i => if i ∈ vis then (f i).bind (swept heir pid) else f i
def wok (f : PV) (heir pid : Int) (vis : List Int) : Bool := decide (heir ≠ 0) && vis.any fun i => match f i with | some c => decide (c.par = pid ∧ c.st = 3) | none => false
def cur (f : PV) (heir pid : Int) (vis : List Int) : PV := if wok f heir pid vis then (sweep f heir pid vis).turn heir 1 else sweep f heir pid vis
/-- What is asked of an heir. -/
structure Heir (f : PV) (heir pid : Int) : Prop where
  is : heir = 0 ∨ heir = 1
  at_ : heir = 1 → ∃ c, f 1 = some c ∧ c.st ≠ 3 ∧ c.par = 0
  pid : pid ≠ 0
variable {f : PV} {heir pid i : Int} {vis : List Int} {c : Pr}
theorem liv_some (h : f i = some c) : f.liv i = decide (c.st ≠ 3) := by unfold liv; rw [h]
theorem Heir.sweep1 (h : Heir f 1 pid) : ∃ c, f 1 = some c ∧ (sweep f 1 pid vis) 1 = some c ∧ c.st ≠ 3 ∧ c.par = 0 := by
  obtain ⟨c, h1, h2, h3⟩ := h.at_ rfl
  refine ⟨c, h1, ?_, h2, h3⟩
  unfold sweep
  rw [h1]
  have : c.par ≠ pid := by rw [h3]; exact h.pid.symm
  simp [swept, this]
theorem Heir.turn1 (h : Heir f 1 pid) : (sweep f 1 pid vis).turn 1 1 = (sweep f 1 pid vis).put 1 ((f 1).map fun c => ⟨1, c.par, c.sta⟩) := by
  obtain ⟨c, h1, h2, h3, h4⟩ := h.sweep1 (vis := vis)
  unfold turn
  rw [liv_some h2, decide_eq_true h3, if_pos rfl, h2, h1]
theorem wok0 : wok f 0 pid vis = false := by simp [wok]
theorem wok_cons : wok f heir pid (i :: vis) = (wok f heir pid vis || (decide (heir ≠ 0) && match f i with | some c => decide (c.par = pid ∧ c.st = 3) | none => false)) := by
  unfold wok
  rw [List.any_cons]
  cases decide (heir ≠ 0) <;> simp [Bool.or_comm]
/-- What stands there now of one that was not gone through. -/
theorem cur_at (h : Heir f heir pid) (hi : i ∉ vis) : cur f heir pid vis i = if wok f heir pid vis = true ∧ i = heir then (f i).map fun c => ⟨1, c.par, c.sta⟩ else f i := by
  unfold cur
  have hs : sweep f heir pid vis i = f i := by unfold sweep; rw [if_neg hi]
  cases hw : wok f heir pid vis
  · simp [hs]
  · rcases h.is with rfl | rfl
    · rw [wok0] at hw; cases hw
    · simp only [if_true, true_and]
      rw [h.turn1]
      unfold put
      split
      · rename_i e; rw [e]
      · exact hs
/-- One that is no child. -/
theorem cur_skip (hc : f i = some c) (hp : c.par ≠ pid) : cur f heir pid (i :: vis) = cur f heir pid vis := by
  have e1 : sweep f heir pid (i :: vis) = sweep f heir pid vis := by
    funext j
    unfold sweep
    by_cases hj : j = i
    · subst hj
      simp [hc, swept, hp]
    · simp [hj]
  have e2 : wok f heir pid (i :: vis) = wok f heir pid vis := by
    rw [wok_cons, hc]
    simp [hp]
  unfold cur
  rw [e1, e2]
theorem sweep_cons (hc : f i = some c) (hi : i ∉ vis) : sweep f heir pid (i :: vis) = (sweep f heir pid vis).put i (swept heir pid c) := by
  funext j
  unfold sweep put
  by_cases hj : j = i
  · subst hj
    simp [hc]
  · simp [hj]
/-- A child that lives. -/
theorem cur_live (h : Heir f heir pid) (hc : f i = some c) (hi : i ∉ vis) (hp : c.par = pid) (hs : c.st ≠ 3) : cur f heir pid (i :: vis) = (cur f heir pid vis).put i (some ⟨c.st, heir, c.sta⟩) := by
  have e2 : wok f heir pid (i :: vis) = wok f heir pid vis := by
    rw [wok_cons, hc]
    simp [hs]
  have e1 : sweep f heir pid (i :: vis) = (sweep f heir pid vis).put i (some ⟨c.st, heir, c.sta⟩) := by
    rw [sweep_cons hc hi]
    simp [swept, hp, hs]
  unfold cur
  rw [e2]
  cases hw : wok f heir pid vis
  · exact e1
  · rcases h.is with rfl | rfl
    · rw [wok0] at hw; cases hw
    · simp only [if_true]
      rw [h.turn1, h.turn1, e1]
      obtain ⟨c1, h1, _, _, h4⟩ := h.sweep1 (vis := vis)
      have hne : i ≠ 1 := by
        rintro rfl
        rw [h1] at hc; injection hc with hc; subst hc
        rw [h4] at hp; exact h.pid hp.symm
      funext j
      unfold put
      by_cases j1 : j = 1
      · subst j1; simp [Ne.symm hne]
      · simp [j1]
/-- A child that has ended, and nobody takes it. -/
theorem cur_gone (hc : f i = some c) (hi : i ∉ vis) (hp : c.par = pid) (hs : c.st = 3) : cur f 0 pid (i :: vis) = (cur f 0 pid vis).leave i 0 := by
  unfold cur leave
  rw [wok0, wok0, if_pos rfl]
  simp only [Bool.false_eq_true, if_false]
  rw [sweep_cons hc hi]
  simp [swept, hp, hs]
/-- A child that has ended, and is taken. -/
theorem cur_taken (h : Heir f 1 pid) (hc : f i = some c) (hi : i ∉ vis) (hp : c.par = pid) (hs : c.st = 3) : cur f 1 pid (i :: vis) = (cur f 1 pid vis).leave i 1 := by
  obtain ⟨c1, h1, h2, h3, h4⟩ := h.sweep1 (vis := vis)
  have hne : i ≠ 1 := by
    rintro rfl
    rw [h1] at hc; injection hc with hc; subst hc
    exact h3 hs
  have hw : wok f 1 pid (i :: vis) = true := by
    rw [wok_cons, hc]
    simp [hp, hs]
  have hci : cur f 1 pid vis i = some c := by
    rw [cur_at h hi, if_neg (fun e => hne e.2), hc]
  have hc1 : ∃ s, cur f 1 pid vis 1 = some ⟨s, c1.par, c1.sta⟩ ∧ s ≠ 3 := by
    unfold cur
    cases hw : wok f 1 pid vis
    · exact ⟨c1.st, by simpa using h2, h3⟩
    · simp only [if_true]
      rw [h.turn1, h1]
      exact ⟨1, by simp [put], by decide⟩
  obtain ⟨s, hc1, hs1⟩ := hc1
  have hcur : ∀ j, j ≠ 1 → cur f 1 pid vis j = sweep f 1 pid vis j := by
    intro j hj
    unfold cur
    cases wok f 1 pid vis
    · rfl
    · simp only [if_true]
      rw [h.turn1]
      simp [put, hj]
  unfold leave
  rw [if_neg (by decide), hci]
  simp only [Option.map_some]
  have hl : (put (cur f 1 pid vis) i (some ⟨c.st, 1, c.sta⟩)).liv 1 = true := by
    have : (put (cur f 1 pid vis) i (some ⟨c.st, 1, c.sta⟩)) 1 = some ⟨s, c1.par, c1.sta⟩ := by
      unfold put; rw [if_neg (Ne.symm hne)]; exact hc1
    rw [liv_some this, decide_eq_true hs1]
  unfold turn
  rw [if_pos hl]
  have e0 : cur f 1 pid (i :: vis) = (sweep f 1 pid (i :: vis)).turn 1 1 := by
    conv => lhs; unfold cur
    rw [hw]; rfl
  rw [e0, h.turn1, sweep_cons hc hi, h1]
  funext j
  by_cases j1 : j = 1
  · subst j1
    unfold put
    simp [Ne.symm hne, hc1]
  · unfold put
    simp only [j1, if_false]
    split
    · simp [swept, hp]
    · rw [hcur j j1]
/-- All have been gone through; w: has the heir taken one that had ended? -/
def done (f : PV) (heir pid : Int) (w : Bool) : PV := fun i => if w = true ∧ i = heir then (f i).map fun c => ⟨1, c.par, c.sta⟩ else (f i).bind (swept heir pid)
def Took (f : PV) (heir pid : Int) (w : Bool) : Prop := w = true ↔ (heir ≠ 0 ∧ ∃ j c, f j = some c ∧ c.par = pid ∧ c.st = 3)
theorem cur_done (h : Heir f heir pid) (hall : ∀ i c, f i = some c → i ∈ vis) : ∃ w, Took f heir pid w ∧ cur f heir pid vis = done f heir pid w := by
  have hs : sweep f heir pid vis = fun i => (f i).bind (swept heir pid) := by
    funext i
    unfold sweep
    split
    · rfl
    · rename_i hi
      cases hf : f i with
      | none => rfl
      | some c => exact absurd (hall i c hf) hi
  have hw : Took f heir pid (wok f heir pid vis) := by
    unfold wok Took
    rw [Bool.and_eq_true, List.any_eq_true]
    constructor
    · rintro ⟨h1, j, hj, h2⟩
      refine ⟨by simpa using h1, j, ?_⟩
      cases hf : f j with
      | none => rw [hf] at h2; cases h2
      | some c => rw [hf] at h2; exact ⟨c, rfl, by simpa using h2⟩
    · rintro ⟨h1, j, c, hf, h2⟩
      exact ⟨by simpa using h1, j, hall j c hf, by rw [hf]; simpa using h2⟩
  refine ⟨_, hw, ?_⟩
  unfold cur done
  cases hx : wok f heir pid vis
  · rw [if_neg (by simp), hs]
    funext i
    rw [if_neg (by simp)]
  · rw [if_pos rfl]
    have := hw.1 hx
    rcases h.is with rfl | rfl
    · exact absurd rfl this.1
    · rw [h.turn1, hs]
      funext i
      unfold put
      by_cases hi : i = 1
      · subst hi; simp
      · simp [hi]
def heirOf (f : PV) (pid : Int) : Int := if pid ≠ 1 ∧ f.liv 1 = true ∧ (f.get 1).par = 0 then 1 else 0
def dead (f : PV) (pid sta : Int) : PV := f.put pid (some ⟨3, (f.get pid).par, sta⟩)
/-- Exit of a process that lives. -/
def exit (f : PV) (pid sta : Int) (w : Bool) : PV := ((f.dead pid sta).done (f.heirOf pid) pid w).leave pid (f.get pid).par
end PV
section
variable {σ σ' : AS} {X : Ce} {R : List Ck} {k : Value → AS → Prop} {t r : Nat} {most pid : Int} {it : Option (Nat × List Int)} {l : Tl}
theorem vw_mem (hn : Nd l) {i : Int} {q : Nat} {c : Pr} (h : (i, q, c) ∈ l) : vw l i = some c := by
  unfold vw
  rw [mem_lookup hn.1 h]
  rfl
theorem leave_lookup (l : Tl) (i par j : Int) (h1 : j ≠ i) (h2 : par ≠ 0 → j ≠ par) : (leaveP l i par).lookup j = l.lookup j := by
  unfold leaveP
  split
  · rw [rem_lookup, if_neg h1]
  · rename_i h0
    unfold turnP
    split
    · rw [upd_lookup, if_neg (h2 h0), upd_lookup, if_neg h1]
    · rw [upd_lookup, if_neg h1]
theorem cur_back {f : PV} {heir pid i : Int} {vis : List Int} {c' : Pr} (h : PV.Heir f heir pid) (hi : i ∉ vis) (hc : PV.cur f heir pid vis i = some c') : ∃ c0, f i = some c0 ∧ c0.par = c'.par ∧ (c'.par = pid → c0 = c') := by
  rw [PV.cur_at h hi] at hc
  split at hc
  · rename_i hw
    rcases h.is with h0 | h0
    · rw [h0, PV.wok0] at hw; exact absurd hw.1 (by simp)
    · obtain ⟨c1, h1, h2, h3⟩ := h.at_ h0
      have hi1 : i = 1 := hw.2.trans h0
      rw [hi1, h1] at hc
      injection hc with hc
      subst hc
      exact ⟨c1, by rw [hi1]; exact h1, rfl, fun e => absurd (h3.symm.trans e) h.pid.symm⟩
  · exact ⟨c', hc, rfl, fun _ => rfl⟩
theorem heir_ok {f : PV} {pid sta : Int} (hp : pid ≠ 0) : PV.Heir (f.dead pid sta) (f.heirOf pid) pid := by
  refine ⟨?_, ?_, hp⟩
  · unfold PV.heirOf; split <;> simp
  · intro h
    unfold PV.heirOf at h
    split at h
    · rename_i hc
      obtain ⟨h1, h2, h3⟩ := hc
      unfold PV.liv at h2
      unfold PV.get at h3
      cases hf : f 1 with
      | none => rw [hf] at h2; cases h2
      | some c =>
        rw [hf] at h2 h3
        exact ⟨c, by unfold PV.dead PV.put; rw [if_neg (Ne.symm h1)]; exact hf, by simpa using h2, h3⟩
    · cases h
theorem exit_c {sta : Int} (h : Hs σ X (TH t r most none l R)) (hp0 : (vw l).liv pid = true → pid ≠ 0) (hself : (vw l).liv pid = true → ((vw l).get pid).par ≠ pid) (hbad : (vw l).liv pid = false → k (.int .i64 23) σ)
    (hk : ∀ l' w σ', (vw l).liv pid = true → PV.Took ((vw l).dead pid sta) ((vw l).heirOf pid) pid w → vw l' = (vw l).exit pid sta w → Hs σ' X (TH t r most none l' R) → k (.int .i64 0) σ') :
    kCall Try.prog 24 [pp t, .int .i64 pid, .int .i64 sta] σ k := by
  refine f24 ?_
  (try simp (maxSteps := 1000000) (dsimp := false) (disch := (first | omega | (simp only [okR]; done) | (simp only [sizeR] <;> omega) | fail)) only [↓preR, postR, ↓w_join, Nat.reduceEqDiff, Nat.reduceAdd, Nat.reduceSub, Nat.reduceMul, Int.reduceNeg, Nat.reduceLT, Int.reduceToNat, Nat.reduceLeDiff, Nat.sub_zero, F24])
  refine alive_c h (fun hl => ?_) (fun hl => ?_)
  rotate_left
  · (try simp (maxSteps := 1000000) (dsimp := false) (disch := (first | omega | (simp only [okR]; done) | (simp only [sizeR] <;> omega) | fail)) only [↓preR, postR, ↓w_join, Nat.reduceEqDiff, Nat.reduceAdd, Nat.reduceSub, Nat.reduceMul, Int.reduceNeg, Nat.reduceLT, Int.reduceToNat, Nat.reduceLeDiff, Nat.sub_zero])
    exact hbad (by rw [← liv_vw]; exact hl)
  rw [liv_vw] at hl
  replace hp0 := hp0 hl
  replace hself := hself hl
  obtain ⟨⟨q, c⟩, hlk⟩ : ∃ x, l.lookup pid = some x := by
    unfold PV.liv vw at hl
    cases hx : l.lookup pid with
    | none => rw [hx] at hl; cases hl
    | some x => exact ⟨x, rfl⟩
  have hm := lookup_mem hlk
  have hvp : vw l pid = some c := by unfold vw; rw [hlk]; rfl
  have hst : c.st ≠ 3 := by simpa [PV.liv, hvp] using hl
  have hget : (vw l).get pid = c := by unfold PV.get; rw [hvp]; rfl
  rw [hget] at hself
  (try simp (maxSteps := 1000000) (dsimp := false) (disch := (first | omega | (simp only [okR]; done) | (simp only [sizeR] <;> omega) | fail)) only [↓preR, postR, ↓w_stop, Nat.reduceEqDiff, Nat.reduceAdd, Nat.reduceSub, Nat.reduceMul, Int.reduceNeg, Nat.reduceLT, Int.reduceToNat, Nat.reduceLeDiff, Nat.sub_zero])
  refine join_now ?_
  (try simp (maxSteps := 1000000) (dsimp := false) (disch := (first | omega | (simp only [okR]; done) | (simp only [sizeR] <;> omega) | fail)) only [↓preR, postR, ↓w_stop, Nat.reduceEqDiff, Nat.reduceAdd, Nat.reduceSub, Nat.reduceMul, Int.reduceNeg, Nat.reduceLT, Int.reduceToNat, Nat.reduceLeDiff, Nat.sub_zero])
  refine join_by fun J hJ => ?_
  have tail : ∀ heir, heir = (vw l).heirOf pid → J [.int .i64 heir] σ := by
    intro heir hh
    refine hJ _ _ ?_
    clear hJ
    have hc := h.tcell hm
    unfold prC at hc
    have h1 := h.tset hm (fun c => ⟨3, c.par, sta⟩)
    have e3 : vw (updP l pid (fun c => ⟨3, c.par, sta⟩)) = (vw l).dead pid sta := by
      rw [vw_upd, hvp]
      unfold PV.dead
      rw [hget]
      rfl
    have hok := heir_ok (f := vw l) (sta := sta) hp0
    rw [← hh] at hok
    have hlen : ∀ vis : List Int, vis.Nodup → (∀ j, j ∈ vis → ∃ c, (vw l).dead pid sta j = some c) → vis.length ≤ l.length := by
      intro vis hn hv
      rw [← e3] at hv
      have := keys_le vis hn hv
      simpa [updP] using this
    have hlp : (updP l pid (fun c => ⟨3, c.par, sta⟩)).lookup pid = some (q, ⟨3, c.par, sta⟩) := by
      rw [upd_lookup, if_pos rfl, hlk]; rfl
    have hfp : (vw l).dead pid sta pid = some ⟨3, c.par, sta⟩ := by
      rw [← e3]; unfold vw; rw [hlp]; rfl
    have hph : heir ≠ 0 → pid ≠ heir := by
      intro h0 e
      rw [hh] at h0
      unfold PV.heirOf at h0
      split at h0
      · rename_i hx
        rcases hok.is with e1 | e1
        · rw [e1] at e; exact hp0 e
        · rw [e1] at e; exact hx.1 e
      · exact h0 rfl
    rw [hlk]
    dsimp only [prC] at h1
    (simp (maxSteps := 1000000) (dsimp := false) (disch := (first | omega | (simp only [okR]; done) | (simp only [sizeR] <;> omega) | fail)) only [↓preR, postR, ↓w_join, Nat.reduceEqDiff, Nat.reduceAdd, Nat.reduceSub, Nat.reduceMul, Int.reduceNeg, Nat.reduceLT, Int.reduceToNat, Nat.reduceLeDiff, Nat.sub_zero, pv, pp, hc, h.obj])
    generalize σ.put q _ = σ1 at h1 ⊢
    (simp (maxSteps := 1000000) (dsimp := false) (disch := (first | omega | (simp only [okR]; done) | (simp only [sizeR] <;> omega) | fail)) only [↓preR, postR, ↓w_join, Nat.reduceEqDiff, Nat.reduceAdd, Nat.reduceSub, Nat.reduceMul, Int.reduceNeg, Nat.reduceLT, Int.reduceToNat, Nat.reduceLeDiff, Nat.sub_zero, h1.obj])
    refine rng_by (κ := Int) h1.swap Try.underlying54 fun σ2 h2 => ?_
    replace h2 := h2.swap
    generalize σ1.n = it at h2 ⊢
    refine loop_inv (fun n xs s => xs = [] ∧ ∃ vis l', Hs s X (TH t r most (some (it, vis)) l' R) ∧ vw l' = PV.cur ((vw l).dead pid sta) heir pid vis ∧ vis.Nodup ∧ (∀ j, j ∈ vis → ∃ c, (vw l).dead pid sta j = some c) ∧ l'.lookup pid = some (q, ⟨3, c.par, sta⟩) ∧ n = l.length - vis.length) _ ⟨rfl, [], _, h2, by
      rw [e3]
      unfold PV.cur
      have : PV.wok ((vw l).dead pid sta) heir pid [] = false := by simp [PV.wok]
      rw [this]
      funext i
      simp [PV.sweep], by simp, by simp, hlp, rfl⟩ ?_
    rintro n _ s again ⟨rfl, vis, l', h3, hcur, hnd, hkeys, hlp', rfl⟩ hag
    refine nxt_by (κ := Int) h3.swap (fun hall => ?_) (fun kk v σ4 hmk hnv h4 => ?_)
    · have hpm := lookup_mem hlp'
      have hcp := h3.tcell hpm
      unfold prC at hcp
      have hdone := PV.cur_done (vis := vis) hok (fun i ci hi => by
        by_cases hv : i ∈ vis
        · exact hv
        · exfalso
          have : vw l' i ≠ none := by
            rw [hcur, PV.cur_at hok hv, hi]
            split <;> simp
          unfold vw at this
          cases hx : l'.lookup i with
          | none => rw [hx] at this; exact this rfl
          | some x => exact hv (hall _ (List.mem_map.2 ⟨_, lookup_mem hx, rfl⟩)))
      obtain ⟨w, hw1, hw2⟩ := hdone
      (try simp (maxSteps := 1000000) (dsimp := false) (disch := (first | omega | (simp only [okR]; done) | (simp only [sizeR] <;> omega) | fail)) only [↓preR, postR, ↓w_join, Nat.reduceEqDiff, Nat.reduceAdd, Nat.reduceSub, Nat.reduceMul, Int.reduceNeg, Nat.reduceLT, Int.reduceToNat, Nat.reduceLeDiff, Nat.sub_zero, pv, pp, hcp])
      have h5 : Hs s X (TH t r most none l' R) := (Mp.over h3.swap).swap
      refine leave_c h5 (fun _ => by rw [hlp']; rfl) fun σ5 h6 => ?_
      (try simp (maxSteps := 1000000) (dsimp := false) (disch := (first | omega | (simp only [okR]; done) | (simp only [sizeR] <;> omega) | fail)) only [↓preR, postR, ↓w_join, Nat.reduceEqDiff, Nat.reduceAdd, Nat.reduceSub, Nat.reduceMul, Int.reduceNeg, Nat.reduceLT, Int.reduceToNat, Nat.reduceLeDiff, Nat.sub_zero])
      refine hk _ w _ hl (by rw [← hh]; exact hw1) ?_ h6
      rw [vw_leave, hcur, hw2]
      unfold PV.exit
      rw [hget, ← hh]
    · (simp (maxSteps := 1000000) (dsimp := false) (disch := (first | omega | (simp only [okR]; done) | (simp only [sizeR] <;> omega) | fail)) only [↓preR, postR, ↓w_join, Nat.reduceEqDiff, Nat.reduceAdd, Nat.reduceSub, Nat.reduceMul, Int.reduceNeg, Nat.reduceLT, Int.reduceToNat, Nat.reduceLeDiff, Nat.sub_zero])
      refine ent_by (κ := Int) h4 hmk ?_
      obtain ⟨e, hme, heq⟩ := List.mem_map.1 hmk
      obtain ⟨kk', q', c'⟩ := e
      simp only [Prod.mk.injEq] at heq
      obtain ⟨rfl, rfl⟩ := heq
      have h4' := h4.swap
      have hc' := h4'.tcell hme
      have hvk := vw_mem h4'.tnd hme
      unfold prC at hc'
      have hck := hvk
      rw [hcur] at hck
      obtain ⟨c0, hf0, hpar, hsame⟩ := cur_back hok hnv hck
      have hnd' : (kk' :: vis).Nodup := List.nodup_cons.2 ⟨hnv, hnd⟩
      have hkeys' : ∀ j, j ∈ kk' :: vis → ∃ c, (vw l).dead pid sta j = some c := by
        intro j hj
        rcases List.mem_cons.1 hj with rfl | hj
        · exact ⟨c0, hf0⟩
        · exact hkeys j hj
      have hm1 := hlen _ hnd' hkeys'
      rw [List.length_cons] at hm1
      by_cases hcp : c'.par = pid
      · obtain rfl := hsame hcp
        have hkp : pid ≠ kk' := by
          rintro rfl
          rw [hfp] at hf0
          injection hf0 with hf0
          rw [← hf0] at hcp
          exact hself hcp
        by_cases hst3 : c0.st = 3
        · (try simp (maxSteps := 1000000) (dsimp := false) (disch := (first | omega | (simp only [okR]; done) | (simp only [sizeR] <;> omega) | fail)) only [↓preR, postR, ↓w_join, Nat.reduceEqDiff, Nat.reduceAdd, Nat.reduceSub, Nat.reduceMul, Int.reduceNeg, Nat.reduceLT, Int.reduceToNat, Nat.reduceLeDiff, Nat.sub_zero, pp, hc'])
          refine leave_c h4' (fun _ => by rw [mem_lookup h4'.tnd.1 hme]; rfl) fun σ5 h5 => ?_
          (try simp (maxSteps := 1000000) (dsimp := false) (disch := (first | omega | (simp only [okR]; done) | (simp only [sizeR] <;> omega) | fail)) only [↓preR, postR, ↓w_join, Nat.reduceEqDiff, Nat.reduceAdd, Nat.reduceSub, Nat.reduceMul, Int.reduceNeg, Nat.reduceLT, Int.reduceToNat, Nat.reduceLeDiff, Nat.sub_zero])
          refine hag _ _ _ ⟨rfl, kk' :: vis, _, h5, ?_, hnd', hkeys', by rw [leave_lookup _ _ _ _ hkp hph]; exact hlp', rfl⟩ (by simp; omega)
          rw [vw_leave, hcur]
          rcases hok.is with h0 | h0
          · rw [h0]; exact (PV.cur_gone hf0 hnv hcp hst3).symm
          · rw [h0] at hok ⊢; exact (PV.cur_taken hok hf0 hnv hcp hst3).symm
        · (try simp (maxSteps := 1000000) (dsimp := false) (disch := (first | omega | (simp only [okR]; done) | (simp only [sizeR] <;> omega) | fail)) only [↓preR, postR, ↓w_join, Nat.reduceEqDiff, Nat.reduceAdd, Nat.reduceSub, Nat.reduceMul, Int.reduceNeg, Nat.reduceLT, Int.reduceToNat, Nat.reduceLeDiff, Nat.sub_zero, pp, hc'])
          refine hag _ _ _ ⟨rfl, kk' :: vis, _, h4'.tset hme (fun c => ⟨c.st, heir, c.sta⟩), ?_, hnd', hkeys', by rw [upd_lookup, if_neg hkp]; exact hlp', rfl⟩ (by simp; omega)
          rw [vw_upd, hvk, hcur]
          exact (PV.cur_live hok hf0 hnv hcp hst3).symm
      · (try simp (maxSteps := 1000000) (dsimp := false) (disch := (first | omega | (simp only [okR]; done) | (simp only [sizeR] <;> omega) | fail)) only [↓preR, postR, ↓w_join, Nat.reduceEqDiff, Nat.reduceAdd, Nat.reduceSub, Nat.reduceMul, Int.reduceNeg, Nat.reduceLT, Int.reduceToNat, Nat.reduceLeDiff, Nat.sub_zero, pp, hc'])
        refine hag _ _ _ ⟨rfl, kk' :: vis, l', h4', ?_, hnd', hkeys', hlp', rfl⟩ (by simp; omega)
        rw [hcur]
        exact (PV.cur_skip hf0 (by rw [hpar]; exact hcp)).symm
  clear hJ
  (simp (maxSteps := 1000000) (dsimp := false) (disch := (first | omega | (simp only [okR]; done) | (simp only [sizeR] <;> omega) | fail)) only [↓preR, postR, ↓w_join, Nat.reduceEqDiff, Nat.reduceAdd, Nat.reduceSub, Nat.reduceMul, Int.reduceNeg, Nat.reduceLT, Int.reduceToNat, Nat.reduceLeDiff, Nat.sub_zero, pp, h.obj])
  refine tlk h ?_
  by_cases h1 : pid = 1
  · (try simp (maxSteps := 1000000) (dsimp := false) (disch := (first | omega | (simp only [okR]; done) | (simp only [sizeR] <;> omega) | fail)) only [↓preR, postR, ↓w_join, Nat.reduceEqDiff, Nat.reduceAdd, Nat.reduceSub, Nat.reduceMul, Int.reduceNeg, Nat.reduceLT, Int.reduceToNat, Nat.reduceLeDiff, Nat.sub_zero])
    exact tail 0 (by simp [PV.heirOf, h1])
  (simp (maxSteps := 1000000) (dsimp := false) (disch := (first | omega | (simp only [okR]; done) | (simp only [sizeR] <;> omega) | fail)) only [↓preR, postR, ↓w_join, Nat.reduceEqDiff, Nat.reduceAdd, Nat.reduceSub, Nat.reduceMul, Int.reduceNeg, Nat.reduceLT, Int.reduceToNat, Nat.reduceLeDiff, Nat.sub_zero])
  refine lives_c h ?_
  rw [liv_vw]
  cases hl1 : (vw l).liv 1
  · (try simp (maxSteps := 1000000) (dsimp := false) (disch := (first | omega | (simp only [okR]; done) | (simp only [sizeR] <;> omega) | fail)) only [↓preR, postR, ↓w_join, Nat.reduceEqDiff, Nat.reduceAdd, Nat.reduceSub, Nat.reduceMul, Int.reduceNeg, Nat.reduceLT, Int.reduceToNat, Nat.reduceLeDiff, Nat.sub_zero])
    exact tail 0 (by simp [PV.heirOf, hl1])
  · obtain ⟨⟨q1, c1⟩, hlk1⟩ : ∃ x, l.lookup 1 = some x := by
      unfold PV.liv vw at hl1
      cases hx : l.lookup 1 with
      | none => rw [hx] at hl1; cases hl1
      | some x => exact ⟨x, rfl⟩
    have hc1 := h.tcell (lookup_mem hlk1)
    unfold prC at hc1
    have hg : ((vw l).get 1).par = c1.par := by unfold PV.get vw; rw [hlk1]; rfl
    by_cases h0 : c1.par = 0
    · (try simp (maxSteps := 1000000) (dsimp := false) (disch := (first | omega | (simp only [okR]; done) | (simp only [sizeR] <;> omega) | fail)) only [↓preR, postR, ↓w_join, Nat.reduceEqDiff, Nat.reduceAdd, Nat.reduceSub, Nat.reduceMul, Int.reduceNeg, Nat.reduceLT, Int.reduceToNat, Nat.reduceLeDiff, Nat.sub_zero, hlk1, pv, pp, hc1])
      exact tail 1 (by simp [PV.heirOf, hl1, h1, hg, h0])
    · (try simp (maxSteps := 1000000) (dsimp := false) (disch := (first | omega | (simp only [okR]; done) | (simp only [sizeR] <;> omega) | fail)) only [↓preR, postR, ↓w_join, Nat.reduceEqDiff, Nat.reduceAdd, Nat.reduceSub, Nat.reduceMul, Int.reduceNeg, Nat.reduceLT, Int.reduceToNat, Nat.reduceLeDiff, Nat.sub_zero, hlk1, pv, pp, hc1])
      exact tail 0 (by simp [PV.heirOf, hl1, hg, h0])
def kid (pid child i : Int) (c : Pr) : Prop := c.par = pid ∧ (child = 0 ∨ child = i)
/-- What a search that went through vis has found. -/
def Seen (f : PV) (pid child : Int) (vis : List Int) (found : Bool) (least : Int) : Prop :=
  (found = true → ∃ j c, f j = some c ∧ kid pid child j c) ∧ (found = false → ∀ j, j ∈ vis → ∀ c, f j = some c → ¬ kid pid child j c) ∧
  ((least = 0 ∧ ∀ j, j ∈ vis → ∀ c, f j = some c → kid pid child j c → c.st ≠ 3) ∨
   (least ≠ 0 ∧ found = true ∧ ∃ c, f least = some c ∧ kid pid child least c ∧ c.st = 3 ∧ ∀ j, j ∈ vis → ∀ c, f j = some c → kid pid child j c → c.st = 3 → least ≤ j))
theorem seen_skip {f : PV} {child i least : Int} {vis : List Int} {found : Bool} {c : Pr} (h : Seen f pid child vis found least) (hc : f i = some c) (hn : ¬ kid pid child i c) : Seen f pid child (i :: vis) found least := by
  obtain ⟨h1, h2, h3⟩ := h
  have key : ∀ {Q : Int → Pr → Prop}, (∀ j, j ∈ vis → ∀ c, f j = some c → Q j c) → (Q i c) → ∀ j, j ∈ i :: vis → ∀ c, f j = some c → Q j c := by
    intro Q hq hi j hj c' hc'
    rcases List.mem_cons.1 hj with rfl | hj
    · rw [hc] at hc'; injection hc' with hc'; subst hc'; exact hi
    · exact hq j hj c' hc'
  refine ⟨h1, fun hf => key (h2 hf) hn, ?_⟩
  rcases h3 with ⟨h4, h5⟩ | ⟨h4, h5, c1, h6, h7, h8, h9⟩
  · exact .inl ⟨h4, key h5 (fun hk => absurd hk hn)⟩
  · exact .inr ⟨h4, h5, c1, h6, h7, h8, key h9 (fun hk => absurd hk hn)⟩
theorem seen_live {f : PV} {child i least : Int} {vis : List Int} {found : Bool} {c : Pr} (h : Seen f pid child vis found least) (hc : f i = some c) (hk : kid pid child i c) (hs : c.st = 3 → least ≠ 0 ∧ least ≤ i) : Seen f pid child (i :: vis) true least := by
  obtain ⟨h1, h2, h3⟩ := h
  have key : ∀ {Q : Int → Pr → Prop}, (∀ j, j ∈ vis → ∀ c, f j = some c → Q j c) → (Q i c) → ∀ j, j ∈ i :: vis → ∀ c, f j = some c → Q j c := by
    intro Q hq hi j hj c' hc'
    rcases List.mem_cons.1 hj with rfl | hj
    · rw [hc] at hc'; injection hc' with hc'; subst hc'; exact hi
    · exact hq j hj c' hc'
  refine ⟨fun _ => ⟨i, c, hc, hk⟩, fun hf => (by cases hf), ?_⟩
  rcases h3 with ⟨h4, h5⟩ | ⟨h4, h5, c1, h6, h7, h8, h9⟩
  · exact .inl ⟨h4, key h5 (fun _ h3 => (hs h3).1 h4)⟩
  · exact .inr ⟨h4, rfl, c1, h6, h7, h8, key h9 (fun _ h3 => (hs h3).2)⟩
theorem seen_dead {f : PV} {child i least : Int} {vis : List Int} {found : Bool} {c : Pr} (h : Seen f pid child vis found least) (hc : f i = some c) (hk : kid pid child i c) (hs : c.st = 3) (hi : i ≠ 0) (hl : least = 0 ∨ i < least) : Seen f pid child (i :: vis) true i := by
  obtain ⟨h1, h2, h3⟩ := h
  have key : ∀ {Q : Int → Pr → Prop}, (∀ j, j ∈ vis → ∀ c, f j = some c → Q j c) → (Q i c) → ∀ j, j ∈ i :: vis → ∀ c, f j = some c → Q j c := by
    intro Q hq hi j hj c' hc'
    rcases List.mem_cons.1 hj with rfl | hj
    · rw [hc] at hc'; injection hc' with hc'; subst hc'; exact hi
    · exact hq j hj c' hc'
  refine ⟨fun _ => ⟨i, c, hc, hk⟩, fun hf => (by cases hf), .inr ⟨hi, rfl, c, hc, hk, hs, key (fun j hj c' hc' hk' hs' => ?_) (fun _ _ => Int.le_refl _)⟩⟩
  rcases h3 with ⟨h4, h5⟩ | ⟨h4, h5, c1, h6, h7, h8, h9⟩
  · exact absurd hs' (h5 j hj c' hc' hk')
  · have := h9 j hj c' hc' hk' hs'
    rcases hl with hl | hl
    · exact absurd hl h4
    · omega
theorem wait_c {child : Int} (h : Hs σ X (TH t r most none l R)) (hkeys : ∀ i, vw l i ≠ none → 1 ≤ i)
    (hbad : (vw l).liv pid = false → k (.tuple #[.int .i64 0, .int .i64 0, .int .i64 23]) σ)
    (harg : (vw l).liv pid = true → child < 0 → k (.tuple #[.int .i64 0, .int .i64 0, .int .i64 1]) σ)
    (hnone : ∀ σ', (vw l).liv pid = true → 0 ≤ child → (∀ i c, vw l i = some c → ¬ kid pid child i c) → Hs σ' X (TH t r most none l R) → k (.tuple #[.int .i64 0, .int .i64 0, .int .i64 31]) σ')
    (hwait : ∀ σ', (vw l).liv pid = true → 0 ≤ child → (∃ i c, vw l i = some c ∧ kid pid child i c) → (∀ i c, vw l i = some c → kid pid child i c → c.st ≠ 3) → Hs σ' X (TH t r most none l R) → k (.tuple #[.int .i64 0, .int .i64 0, .int .i64 30]) σ')
    (hok : ∀ i c σ', (vw l).liv pid = true → 0 ≤ child → vw l i = some c → kid pid child i c → c.st = 3 → (∀ j c, vw l j = some c → kid pid child j c → c.st = 3 → i ≤ j) → Hs σ' X (TH t r most none (remP l i) R) → k (.tuple #[.int .i64 i, .int .i64 c.sta, .int .i64 0]) σ') :
    kCall Try.prog 21 [pp t, .int .i64 pid, .int .i64 child] σ k := by
  refine f21 ?_
  (try simp (maxSteps := 1000000) (dsimp := false) (disch := (first | omega | (simp only [okR]; done) | (simp only [sizeR] <;> omega) | fail)) only [↓preR, postR, ↓w_join, Nat.reduceEqDiff, Nat.reduceAdd, Nat.reduceSub, Nat.reduceMul, Int.reduceNeg, Nat.reduceLT, Int.reduceToNat, Nat.reduceLeDiff, Nat.sub_zero, F21])
  refine alive_c h (fun hl => ?_) (fun hl => ?_)
  rotate_left
  · rw [liv_vw] at hl
    (try simp (maxSteps := 1000000) (dsimp := false) (disch := (first | omega | (simp only [okR]; done) | (simp only [sizeR] <;> omega) | fail)) only [↓preR, postR, ↓w_join, Nat.reduceEqDiff, Nat.reduceAdd, Nat.reduceSub, Nat.reduceMul, Int.reduceNeg, Nat.reduceLT, Int.reduceToNat, Nat.reduceLeDiff, Nat.sub_zero])
    exact hbad hl
  rw [liv_vw] at hl
  by_cases hc0 : child < 0
  · (try simp (maxSteps := 1000000) (dsimp := false) (disch := (first | omega | (simp only [okR]; done) | (simp only [sizeR] <;> omega) | fail)) only [↓preR, postR, ↓w_join, Nat.reduceEqDiff, Nat.reduceAdd, Nat.reduceSub, Nat.reduceMul, Int.reduceNeg, Nat.reduceLT, Int.reduceToNat, Nat.reduceLeDiff, Nat.sub_zero])
    exact harg hl hc0
  have hc0' : 0 ≤ child := by omega
  (simp (maxSteps := 1000000) (dsimp := false) (disch := (first | omega | (simp only [okR]; done) | (simp only [sizeR] <;> omega) | fail)) only [↓preR, postR, ↓w_join, Nat.reduceEqDiff, Nat.reduceAdd, Nat.reduceSub, Nat.reduceMul, Int.reduceNeg, Nat.reduceLT, Int.reduceToNat, Nat.reduceLeDiff, Nat.sub_zero, pp, h.obj])
  refine rng_by (κ := Int) h.swap Try.underlying54 fun σ2 h2 => ?_
  replace h2 := h2.swap
  generalize σ.n = it at h2 ⊢
  refine loop_inv (fun n xs s => ∃ found least vis, xs = [.bool found, .int .i64 least] ∧ Hs s X (TH t r most (some (it, vis)) l R) ∧ vis.Nodup ∧ (∀ j, j ∈ vis → ∃ c, vw l j = some c) ∧ Seen (vw l) pid child vis found least ∧ n = l.length - vis.length) _ ⟨false, 0, [], rfl, h2, by simp, by simp, ⟨fun h => (by cases h), by simp, .inl ⟨rfl, by simp⟩⟩, rfl⟩ ?_
  rintro n _ s again ⟨found, least, vis, rfl, h3, hnd, hkv, hseen, rfl⟩ hag
  (simp (maxSteps := 1000000) (dsimp := false) (disch := (first | omega | (simp only [okR]; done) | (simp only [sizeR] <;> omega) | fail)) only [↓preR, postR, ↓w_join, Nat.reduceEqDiff, Nat.reduceAdd, Nat.reduceSub, Nat.reduceMul, Int.reduceNeg, Nat.reduceLT, Int.reduceToNat, Nat.reduceLeDiff, Nat.sub_zero])
  refine nxt_by (κ := Int) h3.swap (fun hall => ?_) (fun kk v σ4 hmk hnv h4 => ?_)
  · have h5 : Hs s X (TH t r most none l R) := (Mp.over h3.swap).swap
    have hallv : ∀ i c, vw l i = some c → i ∈ vis := by
      intro i c hi
      unfold vw at hi
      rw [Option.map_eq_some_iff] at hi
      obtain ⟨x, hx, _⟩ := hi
      exact hall _ (List.mem_map.2 ⟨_, lookup_mem hx, rfl⟩)
    obtain ⟨hs1, hs2, hs3⟩ := hseen
    cases found
    · (try simp (maxSteps := 1000000) (dsimp := false) (disch := (first | omega | (simp only [okR]; done) | (simp only [sizeR] <;> omega) | fail)) only [↓preR, postR, ↓w_join, Nat.reduceEqDiff, Nat.reduceAdd, Nat.reduceSub, Nat.reduceMul, Int.reduceNeg, Nat.reduceLT, Int.reduceToNat, Nat.reduceLeDiff, Nat.sub_zero])
      exact hnone _ hl hc0' (fun i c hi => hs2 rfl i (hallv i c hi) c hi) h5
    · rcases hs3 with ⟨rfl, hs4⟩ | ⟨hl0, _, c, hs4, hs5, hs6, hs7⟩
      · (try simp (maxSteps := 1000000) (dsimp := false) (disch := (first | omega | (simp only [okR]; done) | (simp only [sizeR] <;> omega) | fail)) only [↓preR, postR, ↓w_join, Nat.reduceEqDiff, Nat.reduceAdd, Nat.reduceSub, Nat.reduceMul, Int.reduceNeg, Nat.reduceLT, Int.reduceToNat, Nat.reduceLeDiff, Nat.sub_zero])
        exact hwait _ hl hc0' (hs1 rfl) (fun i c hi => hs4 i (hallv i c hi) c hi) h5
      · unfold vw at hs4
        rw [Option.map_eq_some_iff] at hs4
        obtain ⟨⟨q, c'⟩, hlk, rfl⟩ := hs4
        have hm := lookup_mem hlk
        have hcc := h5.tcell hm
        unfold prC at hcc
        (simp (maxSteps := 1000000) (dsimp := false) (disch := (first | omega | (simp only [okR]; done) | (simp only [sizeR] <;> omega) | fail)) only [↓preR, postR, ↓w_join, Nat.reduceEqDiff, Nat.reduceAdd, Nat.reduceSub, Nat.reduceMul, Int.reduceNeg, Nat.reduceLT, Int.reduceToNat, Nat.reduceLeDiff, Nat.sub_zero, pp, h5.obj])
        refine tlk h5 ?_
        rw [hlk]
        (simp (maxSteps := 1000000) (dsimp := false) (disch := (first | omega | (simp only [okR]; done) | (simp only [sizeR] <;> omega) | fail)) only [↓preR, postR, ↓w_join, Nat.reduceEqDiff, Nat.reduceAdd, Nat.reduceSub, Nat.reduceMul, Int.reduceNeg, Nat.reduceLT, Int.reduceToNat, Nat.reduceLeDiff, Nat.sub_zero, pv, pp, hcc, h5.obj])
        refine del_by (κ := Int) h5.swap Try.underlying54 Try.underlying3 fun σ6 h6 => ?_
        (try simp (maxSteps := 1000000) (dsimp := false) (disch := (first | omega | (simp only [okR]; done) | (simp only [sizeR] <;> omega) | fail)) only [↓preR, postR, ↓w_join, Nat.reduceEqDiff, Nat.reduceAdd, Nat.reduceSub, Nat.reduceMul, Int.reduceNeg, Nat.reduceLT, Int.reduceToNat, Nat.reduceLeDiff, Nat.sub_zero])
        refine hok least c' _ hl hc0' (by unfold vw; rw [hlk]; rfl) hs5 hs6 (fun j c hj => hs7 j (hallv j c hj) c hj) ?_
        rw [del_ptrs] at h6
        obtain ⟨f, hf⟩ := objs_rem h5.tnd least
        have h7 := (h6.swap.rot2.fewerO f).un2
        rw [hf] at h7
        exact h7
  · obtain ⟨e, hme, heq⟩ := List.mem_map.1 hmk
    obtain ⟨kk', q', c'⟩ := e
    simp only [Prod.mk.injEq] at heq
    obtain ⟨rfl, rfl⟩ := heq
    have h4' := h4.swap
    have hc' := h4'.tcell hme
    have hvk := vw_mem h4'.tnd hme
    have hk1 := hkeys kk' (by rw [hvk]; simp)
    unfold prC at hc'
    have hnd' : (kk' :: vis).Nodup := List.nodup_cons.2 ⟨hnv, hnd⟩
    have hkeys' : ∀ j, j ∈ kk' :: vis → ∃ c, vw l j = some c := by
      intro j hj
      rcases List.mem_cons.1 hj with rfl | hj
      · exact ⟨c', hvk⟩
      · exact hkv j hj
    have hm1 := keys_le _ hnd' hkeys'
    rw [List.length_cons] at hm1
    have nxt : ∀ found' least', Seen (vw l) pid child (kk' :: vis) found' least' → again [.bool found', .int .i64 least'] σ4 := fun found' least' hs => hag _ _ _ ⟨found', least', kk' :: vis, rfl, h4', hnd', hkeys', hs, rfl⟩ (by simp; omega)
    (simp (maxSteps := 1000000) (dsimp := false) (disch := (first | omega | (simp only [okR]; done) | (simp only [sizeR] <;> omega) | fail)) only [↓preR, postR, ↓w_join, Nat.reduceEqDiff, Nat.reduceAdd, Nat.reduceSub, Nat.reduceMul, Int.reduceNeg, Nat.reduceLT, Int.reduceToNat, Nat.reduceLeDiff, Nat.sub_zero])
    refine ent_by (κ := Int) h4 hmk ?_
    by_cases hcp : c'.par = pid
    · by_cases hch : child = 0
      · by_cases hst3 : c'.st = 3
        · by_cases hl0 : least = 0
          · (try simp (maxSteps := 1000000) (dsimp := false) (disch := (first | omega | (simp only [okR]; done) | (simp only [sizeR] <;> omega) | fail)) only [↓preR, postR, ↓w_join, Nat.reduceEqDiff, Nat.reduceAdd, Nat.reduceSub, Nat.reduceMul, Int.reduceNeg, Nat.reduceLT, Int.reduceToNat, Nat.reduceLeDiff, Nat.sub_zero, pp, hc', encK_i])
            exact nxt _ _ (seen_dead hseen hvk ⟨hcp, .inl hch⟩ hst3 (by omega) (.inl hl0))
          · by_cases hlt : kk' < least
            · (try simp (maxSteps := 1000000) (dsimp := false) (disch := (first | omega | (simp only [okR]; done) | (simp only [sizeR] <;> omega) | fail)) only [↓preR, postR, ↓w_join, Nat.reduceEqDiff, Nat.reduceAdd, Nat.reduceSub, Nat.reduceMul, Int.reduceNeg, Nat.reduceLT, Int.reduceToNat, Nat.reduceLeDiff, Nat.sub_zero, pp, hc', encK_i])
              exact nxt _ _ (seen_dead hseen hvk ⟨hcp, .inl hch⟩ hst3 (by omega) (.inr hlt))
            · (try simp (maxSteps := 1000000) (dsimp := false) (disch := (first | omega | (simp only [okR]; done) | (simp only [sizeR] <;> omega) | fail)) only [↓preR, postR, ↓w_join, Nat.reduceEqDiff, Nat.reduceAdd, Nat.reduceSub, Nat.reduceMul, Int.reduceNeg, Nat.reduceLT, Int.reduceToNat, Nat.reduceLeDiff, Nat.sub_zero, pp, hc', encK_i])
              exact nxt _ _ (seen_live hseen hvk ⟨hcp, .inl hch⟩ (fun _ => ⟨hl0, by omega⟩))
        · (try simp (maxSteps := 1000000) (dsimp := false) (disch := (first | omega | (simp only [okR]; done) | (simp only [sizeR] <;> omega) | fail)) only [↓preR, postR, ↓w_join, Nat.reduceEqDiff, Nat.reduceAdd, Nat.reduceSub, Nat.reduceMul, Int.reduceNeg, Nat.reduceLT, Int.reduceToNat, Nat.reduceLeDiff, Nat.sub_zero, pp, hc', encK_i])
          exact nxt _ _ (seen_live hseen hvk ⟨hcp, .inl hch⟩ (fun h => absurd h hst3))
      · by_cases hck : child = kk'
        · by_cases hst3 : c'.st = 3
          · by_cases hl0 : least = 0
            · (try simp (maxSteps := 1000000) (dsimp := false) (disch := (first | omega | (simp only [okR]; done) | (simp only [sizeR] <;> omega) | fail)) only [↓preR, postR, ↓w_join, Nat.reduceEqDiff, Nat.reduceAdd, Nat.reduceSub, Nat.reduceMul, Int.reduceNeg, Nat.reduceLT, Int.reduceToNat, Nat.reduceLeDiff, Nat.sub_zero, pp, hc', encK_i])
              exact nxt _ _ (seen_dead hseen hvk ⟨hcp, .inr hck⟩ hst3 (by omega) (.inl hl0))
            · by_cases hlt : kk' < least
              · (try simp (maxSteps := 1000000) (dsimp := false) (disch := (first | omega | (simp only [okR]; done) | (simp only [sizeR] <;> omega) | fail)) only [↓preR, postR, ↓w_join, Nat.reduceEqDiff, Nat.reduceAdd, Nat.reduceSub, Nat.reduceMul, Int.reduceNeg, Nat.reduceLT, Int.reduceToNat, Nat.reduceLeDiff, Nat.sub_zero, pp, hc', encK_i])
                exact nxt _ _ (seen_dead hseen hvk ⟨hcp, .inr hck⟩ hst3 (by omega) (.inr hlt))
              · (try simp (maxSteps := 1000000) (dsimp := false) (disch := (first | omega | (simp only [okR]; done) | (simp only [sizeR] <;> omega) | fail)) only [↓preR, postR, ↓w_join, Nat.reduceEqDiff, Nat.reduceAdd, Nat.reduceSub, Nat.reduceMul, Int.reduceNeg, Nat.reduceLT, Int.reduceToNat, Nat.reduceLeDiff, Nat.sub_zero, pp, hc', encK_i])
                exact nxt _ _ (seen_live hseen hvk ⟨hcp, .inr hck⟩ (fun _ => ⟨hl0, by omega⟩))
          · (try simp (maxSteps := 1000000) (dsimp := false) (disch := (first | omega | (simp only [okR]; done) | (simp only [sizeR] <;> omega) | fail)) only [↓preR, postR, ↓w_join, Nat.reduceEqDiff, Nat.reduceAdd, Nat.reduceSub, Nat.reduceMul, Int.reduceNeg, Nat.reduceLT, Int.reduceToNat, Nat.reduceLeDiff, Nat.sub_zero, pp, hc', encK_i])
            exact nxt _ _ (seen_live hseen hvk ⟨hcp, .inr hck⟩ (fun h => absurd h hst3))
        · (try simp (maxSteps := 1000000) (dsimp := false) (disch := (first | omega | (simp only [okR]; done) | (simp only [sizeR] <;> omega) | fail)) only [↓preR, postR, ↓w_join, Nat.reduceEqDiff, Nat.reduceAdd, Nat.reduceSub, Nat.reduceMul, Int.reduceNeg, Nat.reduceLT, Int.reduceToNat, Nat.reduceLeDiff, Nat.sub_zero, pp, hc', encK_i])
          exact nxt _ _ (seen_skip hseen hvk (fun hk => by rcases hk.2 with h | h <;> contradiction))
    · (try simp (maxSteps := 1000000) (dsimp := false) (disch := (first | omega | (simp only [okR]; done) | (simp only [sizeR] <;> omega) | fail)) only [↓preR, postR, ↓w_join, Nat.reduceEqDiff, Nat.reduceAdd, Nat.reduceSub, Nat.reduceMul, Int.reduceNeg, Nat.reduceLT, Int.reduceToNat, Nat.reduceLeDiff, Nat.sub_zero, pp, hc', encK_i])
      exact nxt _ _ (seen_skip hseen hvk (fun hk => hcp hk.1))
end
end Go.Proofs.Ytkponloccimdlaa
