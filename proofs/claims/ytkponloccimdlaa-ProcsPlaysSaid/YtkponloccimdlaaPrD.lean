/- Processes: New, Fork, what is asked of the table; Exit and Wait, whatever the order of a range. Conditions: as each theorem says. -/
import Derived.Test.YtkponloccimdlaaPrC
namespace Go.Proofs.Ytkponloccimdlaa
open E Go.Lib PT
set_option linter.unusedVariables false
set_option linter.unusedSimpArgs false
set_option maxHeartbeats 1000000
set_option maxRecDepth 20000

/-- The table as a function. -/
abbrev PV := Int → Option Pr
namespace PV
def liv (f : PV) (i : Int) : Bool := match f i with | some c => decide (c.st ≠ 3) | none => false
def put (f : PV) (i : Int) (c : Option Pr) : PV := fun j => if j = i then c else f j
def turn (f : PV) (i s : Int) : PV := if f.liv i then f.put i ((f i).map fun c => ⟨s, c.par, c.sta⟩) else f
def leave (f : PV) (i par : Int) : PV := if par = 0 then f.put i none else (f.put i ((f i).map fun c => ⟨c.st, par, c.sta⟩)).turn par 1
def get (f : PV) (i : Int) : Pr := (f i).getD ⟨0, 0, 0⟩
end PV
def vw (l : Tl) : PV := fun i => (l.lookup i).map (·.2)
theorem vw_upd (l : Tl) (i : Int) (f : Pr → Pr) : vw (updP l i f) = (vw l).put i ((vw l i).map f) := by
  funext j
  unfold vw PV.put
  rw [upd_lookup]
  split
  · cases l.lookup i <;> rfl
  · rfl
theorem rem_lookup (l : Tl) (i j : Int) : (remP l i).lookup j = if j = i then none else l.lookup j := by
  induction l with
  | nil => simp [remP]
  | cons e l ih =>
    unfold remP at ih ⊢
    rw [List.filter_cons]
    by_cases h : e.1 = i
    · simp only [h, ne_eq, not_true_eq_false, decide_false, Bool.false_eq_true, if_false]
      rw [ih]
      split
      · rfl
      · rename_i hj
        rw [List.lookup_cons]
        have : (j == e.1) = false := by simp [h, hj]
        rw [this]
    · simp only [ne_eq, h, not_false_eq_true, decide_true, if_true]
      rw [List.lookup_cons, List.lookup_cons, ih]
      by_cases hj : j = e.1
      · simp [hj, h]
      · have : (j == e.1) = false := by simp [hj]
        rw [this]
theorem vw_rem (l : Tl) (i : Int) : vw (remP l i) = (vw l).put i none := by
  funext j
  unfold vw PV.put
  rw [rem_lookup]
  split <;> rfl
theorem liv_vw (l : Tl) (i : Int) : livesP l i = (vw l).liv i := by
  unfold livesP PV.liv vw
  cases l.lookup i <;> rfl
theorem vw_turn (l : Tl) (i s : Int) : vw (turnP l i s) = (vw l).turn i s := by
  unfold turnP PV.turn
  rw [liv_vw]
  split
  · rw [vw_upd]
  · rfl
theorem vw_leave (l : Tl) (i par : Int) : vw (leaveP l i par) = (vw l).leave i par := by
  unfold leaveP PV.leave
  split
  · rw [vw_rem]
  · rw [vw_turn, vw_upd]
theorem vw_app (l : Tl) (i : Int) (q : Nat) (c : Pr) (h : vw l i = none) : vw (l ++ [(i, q, c)]) = (vw l).put i (some c) := by
  funext j
  unfold vw PV.put at *
  rw [Option.map_eq_none_iff] at h
  induction l with
  | nil =>
    simp only [List.nil_append, List.lookup_cons, List.lookup_nil]
    by_cases hj : j = i
    · simp [hj]
    · have : (j == i) = false := by simp [hj]
      simp [this, hj]
  | cons e l ih =>
    rw [List.lookup_cons] at h
    show Option.map _ (List.lookup j (e :: (l ++ _))) = if j = i then some c else Option.map _ (List.lookup j (e :: l))
    rw [List.lookup_cons, List.lookup_cons]
    by_cases hi : i = e.1
    · simp [hi] at h
    · have : (i == e.1) = false := by simp [hi]
      rw [this] at h
      by_cases hj : j = e.1
      · have : ¬ e.1 = i := fun x => hi x.symm
        simp [hj, this]
      · have : (j == e.1) = false := by simp [hj]
        rw [this]
        exact ih h
theorem key_some {l : Tl} {e : Int × Nat × Pr} (h : e ∈ l) : ∃ c, vw l e.1 = some c := by
  unfold vw
  cases hl : l.lookup e.1 with
  | some x => exact ⟨x.2, rfl⟩
  | none =>
    exfalso
    induction l with
    | nil => cases h
    | cons a l ih =>
      rw [List.lookup_cons] at hl
      split at hl
      · cases hl
      · rename_i hne
        rcases List.mem_cons.1 h with rfl | h
        · simp at hne
        · exact ih h hl
theorem keys_le {l : Tl} (vis : List Int) (hn : vis.Nodup) (h : ∀ j, j ∈ vis → ∃ c, vw l j = some c) : vis.length ≤ l.length := by
  have : vis.length ≤ (l.map (·.1)).length := by
    refine List.Nodup.length_le_of_subset hn (fun j hj => ?_)
    obtain ⟨c, hc⟩ := h j hj
    unfold vw at hc
    rw [Option.map_eq_some_iff] at hc
    obtain ⟨x, hx, _⟩ := hc
    exact List.mem_map.2 ⟨_, lookup_mem hx, rfl⟩
  simpa using this
section
variable {σ σ' : AS} {X : Ce} {R : List Ck} {k : Value → AS → Prop} {t r : Nat} {most pid : Int} {it : Option (Nat × List Int)} {l : Tl}
theorem new_c {n : Int} (h : Hs σ X R) (hk : ∀ t r σ', 1 ≤ n → n ≤ 1024 → Hs σ' X (TH t r n none [] R) → k (.tuple #[pp t, .int .i64 0]) σ') (hb : (n < 1 ∨ 1024 < n) → k (.tuple #[.pointer none, .int .i64 1]) σ) :
    kCall Try.prog 7 [.int .i64 n] σ k := by
  refine f7 ?_
  by_cases h1 : n < 1
  · (try simp (maxSteps := 1000000) (dsimp := false) (disch := (first | omega | (simp only [okR]; done) | (simp only [sizeR] <;> omega) | fail)) only [↓preR, postR, ↓w_join, Nat.reduceEqDiff, Nat.reduceAdd, Nat.reduceSub, Nat.reduceMul, Int.reduceNeg, Nat.reduceLT, Int.reduceToNat, Nat.reduceLeDiff, Nat.sub_zero, F7])
    exact hb (.inl h1)
  by_cases h2 : 1024 < n
  · (try simp (maxSteps := 1000000) (dsimp := false) (disch := (first | omega | (simp only [okR]; done) | (simp only [sizeR] <;> omega) | fail)) only [↓preR, postR, ↓w_join, Nat.reduceEqDiff, Nat.reduceAdd, Nat.reduceSub, Nat.reduceMul, Int.reduceNeg, Nat.reduceLT, Int.reduceToNat, Nat.reduceLeDiff, Nat.sub_zero, F7])
    exact hb (.inr h2)
  (try simp (maxSteps := 1000000) (dsimp := false) (disch := (first | omega | (simp only [okR]; done) | (simp only [sizeR] <;> omega) | fail)) only [↓preR, postR, ↓w_join, Nat.reduceEqDiff, Nat.reduceAdd, Nat.reduceSub, Nat.reduceMul, Int.reduceNeg, Nat.reduceLT, Int.reduceToNat, Nat.reduceLeDiff, Nat.sub_zero, F7])
  exact hk _ _ _ (by omega) (by omega) (h.noO.newMap (κ := Int)).new
theorem many_c (h : Hs σ X (TH t r most it l R)) (hk : k (.int .i64 l.length) σ) : kCall Try.prog 13 [pp t] σ k := by
  refine f13 ?_
  (simp (maxSteps := 1000000) (dsimp := false) (disch := (first | omega | (simp only [okR]; done) | (simp only [sizeR] <;> omega) | fail)) only [↓preR, postR, ↓w_join, Nat.reduceEqDiff, Nat.reduceAdd, Nat.reduceSub, Nat.reduceMul, Int.reduceNeg, Nat.reduceLT, Int.reduceToNat, Nat.reduceLeDiff, Nat.sub_zero, F13, pp, h.obj])
  refine len_by (κ := Int) h.swap Try.underlying54 ?_
  unfold ptrs
  rw [List.length_map]
  exact hk
theorem at_c (h : Hs σ X (TH t r most it l R)) (hk : ∀ σ', Hs σ' X (TH t r most it l R) → k (.agg (prC ((vw l).get pid)).toArray) σ') : kCall Try.prog 25 [pp t, .int .i64 pid] σ k := by
  refine f25 ?_
  have h1 := h.new (cs := [.int .i64 0, .int .i64 0, .int .i64 0])
  unfold PV.get vw at hk
  (simp (maxSteps := 1000000) (dsimp := false) (disch := (first | omega | (simp only [okR]; done) | (simp only [sizeR] <;> omega) | fail)) only [↓preR, postR, ↓w_join, Nat.reduceEqDiff, Nat.reduceAdd, Nat.reduceSub, Nat.reduceMul, Int.reduceNeg, Nat.reduceLT, Int.reduceToNat, Nat.reduceLeDiff, Nat.sub_zero, F25, pp, h1.obj1])
  refine tlk h1.drop ?_
  cases hl : l.lookup pid with
  | none =>
    rw [hl] at hk
    (try simp (maxSteps := 1000000) (dsimp := false) (disch := (first | omega | (simp only [okR]; done) | (simp only [sizeR] <;> omega) | fail)) only [↓preR, postR, ↓w_join, Nat.reduceEqDiff, Nat.reduceAdd, Nat.reduceSub, Nat.reduceMul, Int.reduceNeg, Nat.reduceLT, Int.reduceToNat, Nat.reduceLeDiff, Nat.sub_zero, pv, h1.obj])
    exact hk _ h1.put.drop
  | some e =>
    rw [hl] at hk
    obtain ⟨q, c⟩ := e
    have hc := h1.drop.tcell (lookup_mem hl)
    unfold prC at hc
    (simp (maxSteps := 1000000) (dsimp := false) (disch := (first | omega | (simp only [okR]; done) | (simp only [sizeR] <;> omega) | fail)) only [↓preR, postR, ↓w_join, Nat.reduceEqDiff, Nat.reduceAdd, Nat.reduceSub, Nat.reduceMul, Int.reduceNeg, Nat.reduceLT, Int.reduceToNat, Nat.reduceLeDiff, Nat.sub_zero, pv, pp, h1.obj1])
    refine tlk h1.drop ?_
    rw [hl]
    (try simp (maxSteps := 1000000) (dsimp := false) (disch := (first | omega | (simp only [okR]; done) | (simp only [sizeR] <;> omega) | fail)) only [↓preR, postR, ↓w_join, Nat.reduceEqDiff, Nat.reduceAdd, Nat.reduceSub, Nat.reduceMul, Int.reduceNeg, Nat.reduceLT, Int.reduceToNat, Nat.reduceLeDiff, Nat.sub_zero, pv, pp, hc, h1.obj])
    exact hk _ h1.put.drop
theorem state_c (h : Hs σ X (TH t r most it l R)) (hk : ∀ σ', Hs σ' X (TH t r most it l R) → k (.int .i64 ((vw l).get pid).st) σ') : kCall Try.prog 9 [pp t, .int .i64 pid] σ k := by
  refine f9 ?_
  (try simp (maxSteps := 1000000) (dsimp := false) (disch := (first | omega | (simp only [okR]; done) | (simp only [sizeR] <;> omega) | fail)) only [↓preR, postR, ↓w_join, Nat.reduceEqDiff, Nat.reduceAdd, Nat.reduceSub, Nat.reduceMul, Int.reduceNeg, Nat.reduceLT, Int.reduceToNat, Nat.reduceLeDiff, Nat.sub_zero, F9])
  refine at_c h fun σ' h' => ?_
  (try simp (maxSteps := 1000000) (dsimp := false) (disch := (first | omega | (simp only [okR]; done) | (simp only [sizeR] <;> omega) | fail)) only [↓preR, postR, ↓w_join, Nat.reduceEqDiff, Nat.reduceAdd, Nat.reduceSub, Nat.reduceMul, Int.reduceNeg, Nat.reduceLT, Int.reduceToNat, Nat.reduceLeDiff, Nat.sub_zero, prC])
  exact hk _ h'
theorem parent_c (h : Hs σ X (TH t r most it l R)) (hk : ∀ σ', Hs σ' X (TH t r most it l R) → k (.int .i64 ((vw l).get pid).par) σ') : kCall Try.prog 10 [pp t, .int .i64 pid] σ k := by
  refine f10 ?_
  (try simp (maxSteps := 1000000) (dsimp := false) (disch := (first | omega | (simp only [okR]; done) | (simp only [sizeR] <;> omega) | fail)) only [↓preR, postR, ↓w_join, Nat.reduceEqDiff, Nat.reduceAdd, Nat.reduceSub, Nat.reduceMul, Int.reduceNeg, Nat.reduceLT, Int.reduceToNat, Nat.reduceLeDiff, Nat.sub_zero, F10])
  refine at_c h fun σ' h' => ?_
  (try simp (maxSteps := 1000000) (dsimp := false) (disch := (first | omega | (simp only [okR]; done) | (simp only [sizeR] <;> omega) | fail)) only [↓preR, postR, ↓w_join, Nat.reduceEqDiff, Nat.reduceAdd, Nat.reduceSub, Nat.reduceMul, Int.reduceNeg, Nat.reduceLT, Int.reduceToNat, Nat.reduceLeDiff, Nat.sub_zero, prC])
  exact hk _ h'
theorem fork_c {par : Int} (h : Hs σ X (TH t r most none l R)) (hm : most ≤ 1000000)
    (hbad : (vw l).liv par = false → par ≠ 0 → k (.tuple #[.int .i64 0, .int .i64 23]) σ)
    (hfull : ((vw l).liv par = true ∨ par = 0) → (∀ i, 1 ≤ i → i ≤ most → vw l i ≠ none) → k (.tuple #[.int .i64 0, .int .i64 32]) σ)
    (hok : ∀ pid q σ', ((vw l).liv par = true ∨ par = 0) → 1 ≤ pid → pid ≤ most → vw l pid = none → (∀ i, 1 ≤ i → i < pid → vw l i ≠ none) → Hs σ' X (TH t r most none (l ++ [(pid, q, ⟨1, par, 0⟩)]) R) → k (.tuple #[.int .i64 pid, .int .i64 0]) σ') :
    kCall Try.prog 20 [pp t, .int .i64 par] σ k := by
  refine f20 ?_
  (try simp (maxSteps := 1000000) (dsimp := false) (disch := (first | omega | (simp only [okR]; done) | (simp only [sizeR] <;> omega) | fail)) only [↓preR, postR, ↓w_join, Nat.reduceEqDiff, Nat.reduceAdd, Nat.reduceSub, Nat.reduceMul, Int.reduceNeg, Nat.reduceLT, Int.reduceToNat, Nat.reduceLeDiff, Nat.sub_zero, F20])
  by_cases hbc : (vw l).liv par = false ∧ par ≠ 0
  · obtain ⟨h1, h2⟩ := hbc
    refine alive_c h (fun hl => ?_) (fun hl => ?_)
    · rw [liv_vw, h1] at hl; cases hl
    · (try simp (maxSteps := 1000000) (dsimp := false) (disch := (first | omega | (simp only [okR]; done) | (simp only [sizeR] <;> omega) | fail)) only [↓preR, postR, ↓w_join, Nat.reduceEqDiff, Nat.reduceAdd, Nat.reduceSub, Nat.reduceMul, Int.reduceNeg, Nat.reduceLT, Int.reduceToNat, Nat.reduceLeDiff, Nat.sub_zero])
      exact hbad h1 h2
  have hcond : (vw l).liv par = true ∨ par = 0 := by
    by_cases h0 : par = 0
    · exact .inr h0
    · cases h1 : (vw l).liv par
      · exact absurd ⟨h1, h0⟩ hbc
      · exact .inl rfl
  refine alive_c h (fun hl => ?_) (fun hl => ?_)
  all_goals rw [liv_vw] at hl
  all_goals first
    | (have h0 : par = 0 := by simpa [hl] using hcond
       (simp (maxSteps := 1000000) (dsimp := false) (disch := (first | omega | (simp only [okR]; done) | (simp only [sizeR] <;> omega) | fail)) only [↓preR, postR, ↓w_join, Nat.reduceEqDiff, Nat.reduceAdd, Nat.reduceSub, Nat.reduceMul, Int.reduceNeg, Nat.reduceLT, Int.reduceToNat, Nat.reduceLeDiff, Nat.sub_zero]))
    | (simp (maxSteps := 1000000) (dsimp := false) (disch := (first | omega | (simp only [okR]; done) | (simp only [sizeR] <;> omega) | fail)) only [↓preR, postR, ↓w_join, Nat.reduceEqDiff, Nat.reduceAdd, Nat.reduceSub, Nat.reduceMul, Int.reduceNeg, Nat.reduceLT, Int.reduceToNat, Nat.reduceLeDiff, Nat.sub_zero])
  all_goals
    refine loop_inv (fun n xs s => ∃ p : Int, xs = [.int .i64 p] ∧ σ = s ∧ 1 ≤ p ∧ p ≤ max 1 (most + 1) ∧ (∀ i, 1 ≤ i → i < p → vw l i ≠ none) ∧ n = (most + 1 - p).toNat) _ ⟨1, rfl, rfl, by omega, by omega, fun i _ _ => by omega, rfl⟩ ?_
    rintro n _ _ again ⟨p, rfl, rfl, hp1, hp2, hp3, rfl⟩ hag
    have hb : p ≤ 1000001 := by omega
    by_cases hle : p ≤ most
    · (simp (maxSteps := 1000000) (dsimp := false) (disch := (first | omega | (simp only [okR]; done) | (simp only [sizeR] <;> omega) | fail)) only [↓preR, postR, ↓w_join, Nat.reduceEqDiff, Nat.reduceAdd, Nat.reduceSub, Nat.reduceMul, Int.reduceNeg, Nat.reduceLT, Int.reduceToNat, Nat.reduceLeDiff, Nat.sub_zero, pp, h.obj])
      refine tlk h ?_
      cases hl : l.lookup p with
      | none =>
        have hv : vw l p = none := by unfold vw; rw [hl]; rfl
        (try simp (maxSteps := 1000000) (dsimp := false) (disch := (first | omega | (simp only [okR]; done) | (simp only [sizeR] <;> omega) | fail)) only [↓preR, postR, ↓w_join, Nat.reduceEqDiff, Nat.reduceAdd, Nat.reduceSub, Nat.reduceMul, Int.reduceNeg, Nat.reduceLT, Int.reduceToNat, Nat.reduceLeDiff, Nat.sub_zero, pv, pp, h.obj])
        have h1 := h.rot2.addO (cs := [.int .i64 1, .int .i64 par, .int .i64 0])
        refine mup_by (κ := Int) h1.rot2 Try.underlying54 Try.underlying3 fun σ1 h2 => ?_
        have e : ins (ptrs l) p (.pointer (some ⟨σ.n, 0, none⟩)) = ptrs (l ++ [(p, σ.n, ⟨1, par, 0⟩)]) := by
          have hn : (ptrs l).lookup p = none := by
            cases hx : (ptrs l).lookup p with
            | none => rfl
            | some u =>
              have := ptrs_lookup l p
              rw [hx, hl] at this
              have hm := E.lookup_mem hx
              unfold ptrs at hm
              obtain ⟨e, _, he⟩ := List.mem_map.1 hm
              simp only [Prod.mk.injEq] at he
              rw [← he.2] at this
              simp [pv, pp] at this
          unfold ins
          rw [hn]
          simp [ptrs]
        rw [e] at h2
        refine hok p σ.n σ1 hcond hp1 hle hv hp3 ?_
        have eo : objP (l ++ [(p, σ.n, ⟨1, par, 0⟩)]) = objP l ++ [(σ.n, [.int .i64 1, .int .i64 par, .int .i64 0])] := by simp [objP]
        show Hs σ1 X (_ :: _ :: Objs (objP _) :: R)
        rw [eo]
        exact h2.rot2
      | some e =>
        (try simp (maxSteps := 1000000) (dsimp := false) (disch := (first | omega | (simp only [okR]; done) | (simp only [sizeR] <;> omega) | fail)) only [↓preR, postR, ↓w_join, Nat.reduceEqDiff, Nat.reduceAdd, Nat.reduceSub, Nat.reduceMul, Int.reduceNeg, Nat.reduceLT, Int.reduceToNat, Nat.reduceLeDiff, Nat.sub_zero, pv, pp])
        refine hag _ _ _ ⟨p + 1, rfl, rfl, by omega, by omega, fun i h1 h2 => ?_, rfl⟩ (by omega)
        by_cases hi : i = p
        · subst hi
          unfold vw
          rw [hl]
          simp
        · exact hp3 i h1 (by omega)
    · (try simp (maxSteps := 1000000) (dsimp := false) (disch := (first | omega | (simp only [okR]; done) | (simp only [sizeR] <;> omega) | fail)) only [↓preR, postR, ↓w_join, Nat.reduceEqDiff, Nat.reduceAdd, Nat.reduceSub, Nat.reduceMul, Int.reduceNeg, Nat.reduceLT, Int.reduceToNat, Nat.reduceLeDiff, Nat.sub_zero, pp, h.obj])
      exact hfull hcond (fun i h1 h2 => hp3 i h1 (by omega))
end
end Go.Proofs.Ytkponloccimdlaa
