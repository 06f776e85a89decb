/- Processes: the chapter's examples; a nil table. Conditions: as each theorem says. -/
import Derived.Test.YtkponloccimdlaaPrL
namespace Go.Proofs.Ytkponloccimdlaa
open E Go.Lib PT
set_option linter.unusedVariables false
set_option linter.unusedSimpArgs false
set_option maxHeartbeats 1000000
set_option maxRecDepth 20000

abbrev g0 : PV := fun _ => none
abbrev g1 : PV := PV.put g0 1 (some ⟨1, 0, 0⟩)
abbrev g2 : PV := PV.put g1 2 (some ⟨1, 1, 0⟩)
abbrev g3 : PV := PV.put g2 3 (some ⟨1, 2, 0⟩)
theorem g4 (i : Int) : (PV.exit g3 2 7 false) i = if i = 2 then some ⟨3, 1, 7⟩ else if i = 3 then some ⟨1, 1, 0⟩ else if i = 1 then some ⟨1, 0, 0⟩ else none := by
  by_cases h2 : i = 2
  · subst h2; rfl
  by_cases h3 : i = 3
  · subst h3; rfl
  by_cases h1 : i = 1
  · subst h1; rfl
  simp only [h1, h2, h3, if_false]
  have e : PV.exit g3 2 7 false = PV.turn (PV.put (PV.done (PV.dead g3 2 7) 1 2 false) 2 (some ⟨3, 1, 7⟩)) 1 1 := rfl
  rw [e, PV.turn_at, if_neg (fun h => h1 h.2)]
  simp [PV.put, PV.done, PV.dead, h1, h2, h3]
section
variable {σ σ' : AS} {X : Ce} {R : List Ck} {k : Value → AS → Prop} {t r : Nat} {most : Int} {l : Tl}
theorem fork1 {par pid0 : Int} (h : Hs σ X (TH t r 9 none l R)) (hp : (vw l).liv par = true ∨ par = 0) (h0 : 1 ≤ pid0) (h9 : pid0 ≤ 9) (hn : vw l pid0 = none) (hs : ∀ i, 1 ≤ i → i < pid0 → vw l i ≠ none)
    (hk : ∀ l' σ', vw l' = (vw l).put pid0 (some ⟨1, par, 0⟩) → Hs σ' X (TH t r 9 none l' R) → k (.tuple #[.int .i64 pid0, .int .i64 0]) σ') :
    kCall Try.prog 20 [pp t, .int .i64 par] σ k := by
  refine fork_c h (by decide) (fun h1 h2 => ?_) (fun _ hf => absurd hn (hf pid0 h0 h9)) (fun pid q σ1 _ h1 h2 h3 h4 h5 => ?_)
  · rcases hp with hp | hp
    · rw [hp] at h1; cases h1
    · exact absurd hp h2
  · have : pid = pid0 := by
      rcases Int.lt_trichotomy pid pid0 with h | h | h
      · exact absurd h3 (hs pid h1 h)
      · exact h
      · exact absurd hn (h4 pid0 h0 h)
    subst this
    exact hk _ _ (vw_app l pid q _ h3) h5
theorem awake_c (h : Hs σ X R) (hk : ∀ σ', k (.bool true) σ') : kCall Try.prog 12 [] σ k := by
  refine f12 ?_
  (try simp (maxSteps := 1000000) (dsimp := false) (disch := (first | omega | (simp only [okR]; done) | (simp only [sizeR] <;> omega) | fail)) only [↓preR, postR, ↓w_join, Nat.reduceEqDiff, Nat.reduceAdd, Nat.reduceSub, Nat.reduceMul, Int.reduceNeg, Nat.reduceLT, Int.reduceToNat, Nat.reduceLeDiff, Nat.sub_zero, F12])
  refine new_c h (fun t r σ1 _ _ h1 => ?_) (fun hx => by omega)
  have v0 : vw [] = g0 := rfl
  (try simp (maxSteps := 1000000) (dsimp := false) (disch := (first | omega | (simp only [okR]; done) | (simp only [sizeR] <;> omega) | fail)) only [↓preR, postR, ↓w_join, Nat.reduceEqDiff, Nat.reduceAdd, Nat.reduceSub, Nat.reduceMul, Int.reduceNeg, Nat.reduceLT, Int.reduceToNat, Nat.reduceLeDiff, Nat.sub_zero])
  refine fork1 h1 (pid0 := 1) (.inr rfl) (by decide) (by decide) (by rw [v0]) (fun i _ _ => by omega) (fun l1 σ2 v1 h2 => ?_)
  rw [v0] at v1
  (try simp (maxSteps := 1000000) (dsimp := false) (disch := (first | omega | (simp only [okR]; done) | (simp only [sizeR] <;> omega) | fail)) only [↓preR, postR, ↓w_join, Nat.reduceEqDiff, Nat.reduceAdd, Nat.reduceSub, Nat.reduceMul, Int.reduceNeg, Nat.reduceLT, Int.reduceToNat, Nat.reduceLeDiff, Nat.sub_zero])
  refine fork1 h2 (pid0 := 2) (.inl (by rw [v1]; rfl)) (by decide) (by decide) (by rw [v1]; rfl) (fun i _ _ => by
    have : i = 1 := by omega
    subst this
    rw [v1]
    exact fun e => by cases e) (fun l2 σ3 v2 h3 => ?_)
  rw [v1] at v2
  (try simp (maxSteps := 1000000) (dsimp := false) (disch := (first | omega | (simp only [okR]; done) | (simp only [sizeR] <;> omega) | fail)) only [↓preR, postR, ↓w_join, Nat.reduceEqDiff, Nat.reduceAdd, Nat.reduceSub, Nat.reduceMul, Int.reduceNeg, Nat.reduceLT, Int.reduceToNat, Nat.reduceLeDiff, Nat.sub_zero])
  refine fork1 h3 (pid0 := 3) (.inl (by rw [v2]; rfl)) (by decide) (by decide) (by rw [v2]; rfl) (fun i _ _ => by
    have : i = 1 ∨ i = 2 := by omega
    rw [v2]
    rcases this with rfl | rfl <;> exact fun e => by cases e) (fun l3 σ4 v3 h4 => ?_)
  rw [v2] at v3
  (try simp (maxSteps := 1000000) (dsimp := false) (disch := (first | omega | (simp only [okR]; done) | (simp only [sizeR] <;> omega) | fail)) only [↓preR, postR, ↓w_join, Nat.reduceEqDiff, Nat.reduceAdd, Nat.reduceSub, Nat.reduceMul, Int.reduceNeg, Nat.reduceLT, Int.reduceToNat, Nat.reduceLeDiff, Nat.sub_zero])
  refine exit_c h4 (fun _ => by decide) (fun _ => by rw [v3]; decide) (fun hb => by rw [v3] at hb; cases hb) (fun l4 w σ5 _ hw v4 h5 => ?_)
  rw [v3] at v4 hw
  have hw0 : w = false := by
    cases w
    · rfl
    · obtain ⟨_, j, c, hj, h1, h2⟩ := hw.1 rfl
      exfalso
      by_cases j2 : j = 2
      · subst j2
        have : (PV.dead g3 2 7) 2 = some ⟨3, 1, 7⟩ := rfl
        rw [this] at hj; injection hj with hj; subst hj; cases h1
      by_cases j3 : j = 3
      · subst j3
        have : (PV.dead g3 2 7) 3 = some ⟨1, 2, 0⟩ := rfl
        rw [this] at hj; injection hj with hj; subst hj; cases h2
      by_cases j1 : j = 1
      · subst j1
        have : (PV.dead g3 2 7) 1 = some ⟨1, 0, 0⟩ := rfl
        rw [this] at hj; injection hj with hj; subst hj; cases h2
      · simp [PV.dead, PV.put, j1, j2, j3] at hj
  subst hw0
  have at4 : ∀ i, vw l4 i = if i = 2 then some ⟨3, 1, 7⟩ else if i = 3 then some ⟨1, 1, 0⟩ else if i = 1 then some ⟨1, 0, 0⟩ else none := fun i => by rw [v4]; exact g4 i
  (try simp (maxSteps := 1000000) (dsimp := false) (disch := (first | omega | (simp only [okR]; done) | (simp only [sizeR] <;> omega) | fail)) only [↓preR, postR, ↓w_join, Nat.reduceEqDiff, Nat.reduceAdd, Nat.reduceSub, Nat.reduceMul, Int.reduceNeg, Nat.reduceLT, Int.reduceToNat, Nat.reduceLeDiff, Nat.sub_zero])
  refine parent_c h5 fun σ6 h6 => ?_
  have p3 : ((vw l4).get 3).par = 1 := by unfold PV.get; rw [at4]; rfl
  rw [p3]
  have lv1 : (vw l4).liv 1 = true := by unfold PV.liv; rw [at4]; rfl
  have ks : ∀ i, vw l4 i ≠ none → 1 ≤ i := by
    intro i hi
    rw [at4] at hi
    by_cases h2 : i = 2
    · omega
    by_cases h3 : i = 3
    · omega
    by_cases h1 : i = 1
    · omega
    simp [h1, h2, h3] at hi
  have zo : ∀ i c, vw l4 i = some c → c.st = 3 → i = 2 ∧ c = ⟨3, 1, 7⟩ := by
    intro i c hi hz
    rw [at4] at hi
    by_cases h2 : i = 2
    · simp only [h2, if_true] at hi; injection hi with hi; exact ⟨h2, hi.symm⟩
    by_cases h3 : i = 3
    · simp only [h2, h3, if_true] at hi; injection hi with hi; subst hi; cases hz
    by_cases h1 : i = 1
    · simp only [h1, h2, h3, if_true] at hi; injection hi with hi; subst hi; cases hz
    simp [h1, h2, h3] at hi
  (try simp (maxSteps := 1000000) (dsimp := false) (disch := (first | omega | (simp only [okR]; done) | (simp only [sizeR] <;> omega) | fail)) only [↓preR, postR, ↓w_join, Nat.reduceEqDiff, Nat.reduceAdd, Nat.reduceSub, Nat.reduceMul, Int.reduceNeg, Nat.reduceLT, Int.reduceToNat, Nat.reduceLeDiff, Nat.sub_zero])
  refine wait_c h6 ks (fun hb => by rw [lv1] at hb; cases hb) (fun _ hx => by omega) (fun σ7 _ _ hn _ => ?_) (fun σ7 _ _ _ hn _ => ?_) (fun i c σ7 _ _ hc hkid hz _ h7 => ?_)
  · exact absurd ⟨rfl, .inl rfl⟩ (hn 2 ⟨3, 1, 7⟩ (by rw [at4]; rfl))
  · exact absurd rfl (hn 2 ⟨3, 1, 7⟩ (by rw [at4]; rfl) ⟨rfl, .inl rfl⟩)
  obtain ⟨rfl, rfl⟩ := zo i c hc hz
  have at5 : ∀ i, vw (remP l4 2) i = if i = 2 then none else vw l4 i := fun i => by rw [vw_rem]; rfl
  (try simp (maxSteps := 1000000) (dsimp := false) (disch := (first | omega | (simp only [okR]; done) | (simp only [sizeR] <;> omega) | fail)) only [↓preR, postR, ↓w_join, Nat.reduceEqDiff, Nat.reduceAdd, Nat.reduceSub, Nat.reduceMul, Int.reduceNeg, Nat.reduceLT, Int.reduceToNat, Nat.reduceLeDiff, Nat.sub_zero])
  refine wait_c h7 (fun i hi => ks i (fun e => hi (by rw [at5, e]; split <;> rfl))) (fun hb => ?_) (fun _ hx => by omega) (fun σ8 _ _ hn _ => ?_) (fun σ8 _ _ _ _ h8 => ?_) (fun i c σ8 _ _ hc hkid hz _ h8 => ?_)
  · unfold PV.liv at hb lv1
    rw [at5] at hb
    rw [if_neg (by decide)] at hb
    rw [hb] at lv1; cases lv1
  · exact absurd ⟨rfl, .inl rfl⟩ (hn 3 ⟨1, 1, 0⟩ (by rw [at5, if_neg (by decide), at4]; rfl))
  · (try simp (maxSteps := 1000000) (dsimp := false) (disch := (first | omega | (simp only [okR]; done) | (simp only [sizeR] <;> omega) | fail)) only [↓preR, postR, ↓w_join, Nat.reduceEqDiff, Nat.reduceAdd, Nat.reduceSub, Nat.reduceMul, Int.reduceNeg, Nat.reduceLT, Int.reduceToNat, Nat.reduceLeDiff, Nat.sub_zero])
    exact hk _
  · rw [at5] at hc
    split at hc
    · cases hc
    · rename_i h2
      exact absurd (zo i c hc hz).1 h2
theorem nil_walk {p n : Int} : kCall Try.prog 6 [.int .i64 p, .int .i64 n] σ fun v _ => v = .bool true := by
  have al : ∀ {σ : AS} {k : Value → AS → Prop} {p : Int}, k (.tuple #[.pointer none, .int .i64 2]) σ → kCall Try.prog 31 [.pointer none, .int .i64 p] σ k := by
    intro σ k p hk
    refine f31 ?_
    (try simp (maxSteps := 1000000) (dsimp := false) (disch := (first | omega | (simp only [okR]; done) | (simp only [sizeR] <;> omega) | fail)) only [↓preR, postR, ↓w_join, Nat.reduceEqDiff, Nat.reduceAdd, Nat.reduceSub, Nat.reduceMul, Int.reduceNeg, Nat.reduceLT, Int.reduceToNat, Nat.reduceLeDiff, Nat.sub_zero, F31])
    exact hk
  have tu : ∀ {σ : AS} {k : Value → AS → Prop} {p s : Int}, k (.int .i64 2) σ → kCall Try.prog 32 [.pointer none, .int .i64 p, .int .i64 s] σ k := by
    intro σ k p s hk
    refine f32 ?_
    (try simp (maxSteps := 1000000) (dsimp := false) (disch := (first | omega | (simp only [okR]; done) | (simp only [sizeR] <;> omega) | fail)) only [↓preR, postR, ↓w_join, Nat.reduceEqDiff, Nat.reduceAdd, Nat.reduceSub, Nat.reduceMul, Int.reduceNeg, Nat.reduceLT, Int.reduceToNat, Nat.reduceLeDiff, Nat.sub_zero, F32])
    refine al ?_
    (try simp (maxSteps := 1000000) (dsimp := false) (disch := (first | omega | (simp only [okR]; done) | (simp only [sizeR] <;> omega) | fail)) only [↓preR, postR, ↓w_join, Nat.reduceEqDiff, Nat.reduceAdd, Nat.reduceSub, Nat.reduceMul, Int.reduceNeg, Nat.reduceLT, Int.reduceToNat, Nat.reduceLeDiff, Nat.sub_zero])
    exact hk
  have at_ : ∀ {σ : AS} {k : Value → AS → Prop} {p : Int}, (∀ σ', k (.agg #[.int .i64 0, .int .i64 0, .int .i64 0]) σ') → kCall Try.prog 25 [.pointer none, .int .i64 p] σ k := by
    intro σ k p hk
    refine f25 ?_
    (try simp (maxSteps := 1000000) (dsimp := false) (disch := (first | omega | (simp only [okR]; done) | (simp only [sizeR] <;> omega) | fail)) only [↓preR, postR, ↓w_join, Nat.reduceEqDiff, Nat.reduceAdd, Nat.reduceSub, Nat.reduceMul, Int.reduceNeg, Nat.reduceLT, Int.reduceToNat, Nat.reduceLeDiff, Nat.sub_zero, F25])
    exact hk _
  refine f6 ?_
  (try simp (maxSteps := 1000000) (dsimp := false) (disch := (first | omega | (simp only [okR]; done) | (simp only [sizeR] <;> omega) | fail)) only [↓preR, postR, ↓w_join, Nat.reduceEqDiff, Nat.reduceAdd, Nat.reduceSub, Nat.reduceMul, Int.reduceNeg, Nat.reduceLT, Int.reduceToNat, Nat.reduceLeDiff, Nat.sub_zero, F6])
  refine f20 ?_
  (try simp (maxSteps := 1000000) (dsimp := false) (disch := (first | omega | (simp only [okR]; done) | (simp only [sizeR] <;> omega) | fail)) only [↓preR, postR, ↓w_join, Nat.reduceEqDiff, Nat.reduceAdd, Nat.reduceSub, Nat.reduceMul, Int.reduceNeg, Nat.reduceLT, Int.reduceToNat, Nat.reduceLeDiff, Nat.sub_zero, F20])
  refine al ?_
  (try simp (maxSteps := 1000000) (dsimp := false) (disch := (first | omega | (simp only [okR]; done) | (simp only [sizeR] <;> omega) | fail)) only [↓preR, postR, ↓w_join, Nat.reduceEqDiff, Nat.reduceAdd, Nat.reduceSub, Nat.reduceMul, Int.reduceNeg, Nat.reduceLT, Int.reduceToNat, Nat.reduceLeDiff, Nat.sub_zero])
  refine f21 ?_
  (try simp (maxSteps := 1000000) (dsimp := false) (disch := (first | omega | (simp only [okR]; done) | (simp only [sizeR] <;> omega) | fail)) only [↓preR, postR, ↓w_join, Nat.reduceEqDiff, Nat.reduceAdd, Nat.reduceSub, Nat.reduceMul, Int.reduceNeg, Nat.reduceLT, Int.reduceToNat, Nat.reduceLeDiff, Nat.sub_zero, F21])
  refine al ?_
  (try simp (maxSteps := 1000000) (dsimp := false) (disch := (first | omega | (simp only [okR]; done) | (simp only [sizeR] <;> omega) | fail)) only [↓preR, postR, ↓w_join, Nat.reduceEqDiff, Nat.reduceAdd, Nat.reduceSub, Nat.reduceMul, Int.reduceNeg, Nat.reduceLT, Int.reduceToNat, Nat.reduceLeDiff, Nat.sub_zero])
  refine f22 ?_
  (try simp (maxSteps := 1000000) (dsimp := false) (disch := (first | omega | (simp only [okR]; done) | (simp only [sizeR] <;> omega) | fail)) only [↓preR, postR, ↓w_join, Nat.reduceEqDiff, Nat.reduceAdd, Nat.reduceSub, Nat.reduceMul, Int.reduceNeg, Nat.reduceLT, Int.reduceToNat, Nat.reduceLeDiff, Nat.sub_zero, F22])
  refine tu ?_
  (try simp (maxSteps := 1000000) (dsimp := false) (disch := (first | omega | (simp only [okR]; done) | (simp only [sizeR] <;> omega) | fail)) only [↓preR, postR, ↓w_join, Nat.reduceEqDiff, Nat.reduceAdd, Nat.reduceSub, Nat.reduceMul, Int.reduceNeg, Nat.reduceLT, Int.reduceToNat, Nat.reduceLeDiff, Nat.sub_zero])
  refine f23 ?_
  (try simp (maxSteps := 1000000) (dsimp := false) (disch := (first | omega | (simp only [okR]; done) | (simp only [sizeR] <;> omega) | fail)) only [↓preR, postR, ↓w_join, Nat.reduceEqDiff, Nat.reduceAdd, Nat.reduceSub, Nat.reduceMul, Int.reduceNeg, Nat.reduceLT, Int.reduceToNat, Nat.reduceLeDiff, Nat.sub_zero, F23])
  refine tu ?_
  (try simp (maxSteps := 1000000) (dsimp := false) (disch := (first | omega | (simp only [okR]; done) | (simp only [sizeR] <;> omega) | fail)) only [↓preR, postR, ↓w_join, Nat.reduceEqDiff, Nat.reduceAdd, Nat.reduceSub, Nat.reduceMul, Int.reduceNeg, Nat.reduceLT, Int.reduceToNat, Nat.reduceLeDiff, Nat.sub_zero])
  refine f24 ?_
  (try simp (maxSteps := 1000000) (dsimp := false) (disch := (first | omega | (simp only [okR]; done) | (simp only [sizeR] <;> omega) | fail)) only [↓preR, postR, ↓w_join, Nat.reduceEqDiff, Nat.reduceAdd, Nat.reduceSub, Nat.reduceMul, Int.reduceNeg, Nat.reduceLT, Int.reduceToNat, Nat.reduceLeDiff, Nat.sub_zero, F24])
  refine al ?_
  (try simp (maxSteps := 1000000) (dsimp := false) (disch := (first | omega | (simp only [okR]; done) | (simp only [sizeR] <;> omega) | fail)) only [↓preR, postR, ↓w_join, Nat.reduceEqDiff, Nat.reduceAdd, Nat.reduceSub, Nat.reduceMul, Int.reduceNeg, Nat.reduceLT, Int.reduceToNat, Nat.reduceLeDiff, Nat.sub_zero])
  refine f9 ?_
  (try simp (maxSteps := 1000000) (dsimp := false) (disch := (first | omega | (simp only [okR]; done) | (simp only [sizeR] <;> omega) | fail)) only [↓preR, postR, ↓w_join, Nat.reduceEqDiff, Nat.reduceAdd, Nat.reduceSub, Nat.reduceMul, Int.reduceNeg, Nat.reduceLT, Int.reduceToNat, Nat.reduceLeDiff, Nat.sub_zero, F9])
  refine at_ fun σ1 => ?_
  (try simp (maxSteps := 1000000) (dsimp := false) (disch := (first | omega | (simp only [okR]; done) | (simp only [sizeR] <;> omega) | fail)) only [↓preR, postR, ↓w_join, Nat.reduceEqDiff, Nat.reduceAdd, Nat.reduceSub, Nat.reduceMul, Int.reduceNeg, Nat.reduceLT, Int.reduceToNat, Nat.reduceLeDiff, Nat.sub_zero])
  refine f10 ?_
  (try simp (maxSteps := 1000000) (dsimp := false) (disch := (first | omega | (simp only [okR]; done) | (simp only [sizeR] <;> omega) | fail)) only [↓preR, postR, ↓w_join, Nat.reduceEqDiff, Nat.reduceAdd, Nat.reduceSub, Nat.reduceMul, Int.reduceNeg, Nat.reduceLT, Int.reduceToNat, Nat.reduceLeDiff, Nat.sub_zero, F10])
  refine at_ fun σ2 => ?_
  (try simp (maxSteps := 1000000) (dsimp := false) (disch := (first | omega | (simp only [okR]; done) | (simp only [sizeR] <;> omega) | fail)) only [↓preR, postR, ↓w_join, Nat.reduceEqDiff, Nat.reduceAdd, Nat.reduceSub, Nat.reduceMul, Int.reduceNeg, Nat.reduceLT, Int.reduceToNat, Nat.reduceLeDiff, Nat.sub_zero])
  refine f18 ?_
  (try simp (maxSteps := 1000000) (dsimp := false) (disch := (first | omega | (simp only [okR]; done) | (simp only [sizeR] <;> omega) | fail)) only [↓preR, postR, ↓w_join, Nat.reduceEqDiff, Nat.reduceAdd, Nat.reduceSub, Nat.reduceMul, Int.reduceNeg, Nat.reduceLT, Int.reduceToNat, Nat.reduceLeDiff, Nat.sub_zero, F18])
  refine f13 ?_
  (try simp (maxSteps := 1000000) (dsimp := false) (disch := (first | omega | (simp only [okR]; done) | (simp only [sizeR] <;> omega) | fail)) only [↓preR, postR, ↓w_join, Nat.reduceEqDiff, Nat.reduceAdd, Nat.reduceSub, Nat.reduceMul, Int.reduceNeg, Nat.reduceLT, Int.reduceToNat, Nat.reduceLeDiff, Nat.sub_zero, F13])
  refine awake_c (X := fun _ _ => none) (R := []) ⟨fun _ _ _ h => (by cases h), trivial⟩ fun σ3 => ?_
  (try simp (maxSteps := 1000000) (dsimp := false) (disch := (first | omega | (simp only [okR]; done) | (simp only [sizeR] <;> omega) | fail)) only [↓preR, postR, ↓w_join, Nat.reduceEqDiff, Nat.reduceAdd, Nat.reduceSub, Nat.reduceMul, Int.reduceNeg, Nat.reduceLT, Int.reduceToNat, Nat.reduceLeDiff, Nat.sub_zero])
theorem nil_law {v0 v1 : Value} {c : Ce} (A0 : OV c (shOf Try.prog 8 3) v0) (A1 : OV c (shOf Try.prog 8 3) v1) :
    kCall Try.prog 6 [v0, v1] σ fun v _ => v = .bool true := by
  rw [show shOf Try.prog 8 3 = .int .i64 from by kernel_rfl] at A0 A1
  obtain ⟨p, rfl, _⟩ := arg_int A0
  obtain ⟨n, rfl, _⟩ := arg_int A1
  exact nil_walk
end
end Go.Proofs.Ytkponloccimdlaa
