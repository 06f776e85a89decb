/- Processes: what a call answers and leaves, just so. Conditions: as each theorem says. -/
import Derived.Test.YtkponloccimdlaaPrT
namespace Go.Proofs.Ytkponloccimdlaa
open E Go.Lib PT
set_option linter.unusedVariables false
set_option linter.unusedSimpArgs false
set_option maxHeartbeats 1000000
set_option maxRecDepth 20000

/-- What a call answers, and what it leaves: no other answer is right. -/
inductive DoX (f : PV) (most : Int) : Int → Int → Int → Int → Int → Int → PV → Prop
  | forkNone {p n : Int} : f.liv p = false → p ≠ 0 → DoX f most 0 p n 0 0 23 f
  | forkFull {p n : Int} : (f.liv p = true ∨ p = 0) → (∀ i, 1 ≤ i → i ≤ most → f i ≠ none) → DoX f most 0 p n 0 0 32 f
  | fork {p n a : Int} : (f.liv p = true ∨ p = 0) → 1 ≤ a → a ≤ most → f a = none → (∀ i, 1 ≤ i → i < a → f i ≠ none) → DoX f most 0 p n a 0 0 (f.put a (some ⟨1, p, 0⟩))
  | blockNone {p n : Int} : f.liv p = false → DoX f most 1 p n 0 0 23 f
  | block {p n : Int} : f.liv p = true → DoX f most 1 p n 0 0 0 (f.turn p 2)
  | wakeNone {p n : Int} : f.liv p = false → DoX f most 2 p n 0 0 23 f
  | wake {p n : Int} : f.liv p = true → DoX f most 2 p n 0 0 0 (f.turn p 1)
  | exitNone {p n : Int} : f.liv p = false → DoX f most 3 p n 0 0 23 f
  | exit {p n : Int} {w : Bool} : f.liv p = true → PV.Took (f.dead p n) (f.heirOf p) p w → DoX f most 3 p n 0 0 0 (f.exit p n w)
  | waitNone {ask p n : Int} : ask ≠ 0 → ask ≠ 1 → ask ≠ 2 → ask ≠ 3 → f.liv p = false → DoX f most ask p n 0 0 23 f
  | waitArg {ask p n : Int} : ask ≠ 0 → ask ≠ 1 → ask ≠ 2 → ask ≠ 3 → f.liv p = true → n < 0 → DoX f most ask p n 0 0 1 f
  | waitChild {ask p n : Int} : ask ≠ 0 → ask ≠ 1 → ask ≠ 2 → ask ≠ 3 → f.liv p = true → 0 ≤ n → (∀ i c, f i = some c → ¬ kid p n i c) → DoX f most ask p n 0 0 31 f
  | waitWait {ask p n : Int} : ask ≠ 0 → ask ≠ 1 → ask ≠ 2 → ask ≠ 3 → f.liv p = true → 0 ≤ n → (∃ i c, f i = some c ∧ kid p n i c) → (∀ i c, f i = some c → kid p n i c → c.st ≠ 3) → DoX f most ask p n 0 0 30 f
  | wait {ask p n i : Int} {c : Pr} : ask ≠ 0 → ask ≠ 1 → ask ≠ 2 → ask ≠ 3 → f.liv p = true → 0 ≤ n → f i = some c → kid p n i c → c.st = 3 → (∀ j c, f j = some c → kid p n j c → c.st = 3 → i ≤ j) → DoX f most ask p n i c.sta 0 (f.put i none)
theorem DoX.inv {f f' : PV} {most ask p n a b e : Int} (h : DoX f most ask p n a b e f') (hi : Inv f most) : Inv f' most := by
  cases h with
  | fork h1 h2 h3 h4 h5 => exact PV.inv_fork hi h1 h2 h3 h4
  | block h => exact PV.inv_turn hi (.inr rfl) _
  | wake h => exact PV.inv_turn hi (.inl rfl) _
  | exit h1 h2 => exact PV.inv_exit hi h1 h2
  | wait _ _ _ _ _ _ h1 h2 h3 h4 => exact PV.inv_gone hi h1 h3
  | _ => exact hi
section
variable {σ σ' : AS} {X : Ce} {R : List Ck} {k : Value → AS → Prop} {t r : Nat} {most : Int} {l : Tl}
theorem do2_c {ask p n : Int} (h : Hs σ X (TH t r most none l R)) (hi : Inv (vw l) most) (hm : most ≤ 1000000)
    (hk : ∀ a b e l' σ', DoX (vw l) most ask p n a b e (vw l') → Hs σ' X (TH t r most none l' R) → k (.tuple #[.int .i64 a, .int .i64 b, .int .i64 e]) σ') :
    kCall Try.prog 8 [pp t, .agg [.int .i64 ask, .int .i64 p, .int .i64 n].toArray] σ k := by
  refine f8 ?_
  have h0 := (h.junk (.cells [.int .i64 ask, .int .i64 p, .int .i64 n]))
  by_cases a0 : ask = 0
  · subst a0
    (try simp (maxSteps := 1000000) (dsimp := false) (disch := (first | omega | (simp only [okR]; done) | (simp only [sizeR] <;> omega) | fail)) only [↓preR, postR, ↓w_join, Nat.reduceEqDiff, Nat.reduceAdd, Nat.reduceSub, Nat.reduceMul, Int.reduceNeg, Nat.reduceLT, Int.reduceToNat, Nat.reduceLeDiff, Nat.sub_zero, F8])
    refine fork_c h0 hm (fun h1 h2 => ?_) (fun h1 h2 => ?_) (fun pid q σ1 hp h1 h2 h3 h5 h4 => ?_)
    · (try simp (maxSteps := 1000000) (dsimp := false) (disch := (first | omega | (simp only [okR]; done) | (simp only [sizeR] <;> omega) | fail)) only [↓preR, postR, ↓w_join, Nat.reduceEqDiff, Nat.reduceAdd, Nat.reduceSub, Nat.reduceMul, Int.reduceNeg, Nat.reduceLT, Int.reduceToNat, Nat.reduceLeDiff, Nat.sub_zero])
      exact hk _ _ _ l _ (.forkNone h1 h2) h0
    · (try simp (maxSteps := 1000000) (dsimp := false) (disch := (first | omega | (simp only [okR]; done) | (simp only [sizeR] <;> omega) | fail)) only [↓preR, postR, ↓w_join, Nat.reduceEqDiff, Nat.reduceAdd, Nat.reduceSub, Nat.reduceMul, Int.reduceNeg, Nat.reduceLT, Int.reduceToNat, Nat.reduceLeDiff, Nat.sub_zero])
      exact hk _ _ _ l _ (.forkFull h1 h2) h0
    · (try simp (maxSteps := 1000000) (dsimp := false) (disch := (first | omega | (simp only [okR]; done) | (simp only [sizeR] <;> omega) | fail)) only [↓preR, postR, ↓w_join, Nat.reduceEqDiff, Nat.reduceAdd, Nat.reduceSub, Nat.reduceMul, Int.reduceNeg, Nat.reduceLT, Int.reduceToNat, Nat.reduceLeDiff, Nat.sub_zero])
      exact hk _ _ _ _ _ (by rw [vw_app l pid q _ h3]; exact .fork hp h1 h2 h3 h5) h4
  by_cases a1 : ask = 1
  · subst a1
    (try simp (maxSteps := 1000000) (dsimp := false) (disch := (first | omega | (simp only [okR]; done) | (simp only [sizeR] <;> omega) | fail)) only [↓preR, postR, ↓w_join, Nat.reduceEqDiff, Nat.reduceAdd, Nat.reduceSub, Nat.reduceMul, Int.reduceNeg, Nat.reduceLT, Int.reduceToNat, Nat.reduceLeDiff, Nat.sub_zero, F8])
    refine block_c h0 fun σ1 h1 => ?_
    (try simp (maxSteps := 1000000) (dsimp := false) (disch := (first | omega | (simp only [okR]; done) | (simp only [sizeR] <;> omega) | fail)) only [↓preR, postR, ↓w_join, Nat.reduceEqDiff, Nat.reduceAdd, Nat.reduceSub, Nat.reduceMul, Int.reduceNeg, Nat.reduceLT, Int.reduceToNat, Nat.reduceLeDiff, Nat.sub_zero])
    rw [liv_vw]
    cases hl : (vw l).liv p
    · have : turnP l p 2 = l := by unfold turnP; rw [liv_vw, hl]; rfl
      rw [this] at h1
      exact hk _ _ _ l _ (.blockNone hl) h1
    · exact hk _ _ _ _ _ (by rw [vw_turn l p 2]; exact .block hl) h1
  by_cases a2 : ask = 2
  · subst a2
    (try simp (maxSteps := 1000000) (dsimp := false) (disch := (first | omega | (simp only [okR]; done) | (simp only [sizeR] <;> omega) | fail)) only [↓preR, postR, ↓w_join, Nat.reduceEqDiff, Nat.reduceAdd, Nat.reduceSub, Nat.reduceMul, Int.reduceNeg, Nat.reduceLT, Int.reduceToNat, Nat.reduceLeDiff, Nat.sub_zero, F8])
    refine wake_c h0 fun σ1 h1 => ?_
    (try simp (maxSteps := 1000000) (dsimp := false) (disch := (first | omega | (simp only [okR]; done) | (simp only [sizeR] <;> omega) | fail)) only [↓preR, postR, ↓w_join, Nat.reduceEqDiff, Nat.reduceAdd, Nat.reduceSub, Nat.reduceMul, Int.reduceNeg, Nat.reduceLT, Int.reduceToNat, Nat.reduceLeDiff, Nat.sub_zero])
    rw [liv_vw]
    cases hl : (vw l).liv p
    · have : turnP l p 1 = l := by unfold turnP; rw [liv_vw, hl]; rfl
      rw [this] at h1
      exact hk _ _ _ l _ (.wakeNone hl) h1
    · exact hk _ _ _ _ _ (by rw [vw_turn l p 1]; exact .wake hl) h1
  by_cases a3 : ask = 3
  · subst a3
    (try simp (maxSteps := 1000000) (dsimp := false) (disch := (first | omega | (simp only [okR]; done) | (simp only [sizeR] <;> omega) | fail)) only [↓preR, postR, ↓w_join, Nat.reduceEqDiff, Nat.reduceAdd, Nat.reduceSub, Nat.reduceMul, Int.reduceNeg, Nat.reduceLT, Int.reduceToNat, Nat.reduceLeDiff, Nat.sub_zero, F8])
    have hp0 : (vw l).liv p = true → p ≠ 0 ∧ ((vw l).get p).par ≠ p := by
      intro hl
      obtain ⟨c, hc, _⟩ := PV.liv_iff.1 hl
      have h1 := (hi.keys p c hc).1
      have hg : (vw l).get p = c := by unfold PV.get; rw [hc]; rfl
      rw [hg]
      exact ⟨by omega, PV.no_self hi hc (by omega)⟩
    refine exit_c h0 (fun hl => (hp0 hl).1) (fun hl => (hp0 hl).2) (fun hl => ?_) (fun l' w σ1 hl hw hv h1 => ?_)
    · (try simp (maxSteps := 1000000) (dsimp := false) (disch := (first | omega | (simp only [okR]; done) | (simp only [sizeR] <;> omega) | fail)) only [↓preR, postR, ↓w_join, Nat.reduceEqDiff, Nat.reduceAdd, Nat.reduceSub, Nat.reduceMul, Int.reduceNeg, Nat.reduceLT, Int.reduceToNat, Nat.reduceLeDiff, Nat.sub_zero])
      exact hk _ _ _ l _ (.exitNone hl) h0
    · (try simp (maxSteps := 1000000) (dsimp := false) (disch := (first | omega | (simp only [okR]; done) | (simp only [sizeR] <;> omega) | fail)) only [↓preR, postR, ↓w_join, Nat.reduceEqDiff, Nat.reduceAdd, Nat.reduceSub, Nat.reduceMul, Int.reduceNeg, Nat.reduceLT, Int.reduceToNat, Nat.reduceLeDiff, Nat.sub_zero])
      exact hk _ _ _ _ _ (by rw [hv]; exact .exit hl hw) h1
  (try simp (maxSteps := 1000000) (dsimp := false) (disch := (first | omega | (simp only [okR]; done) | (simp only [sizeR] <;> omega) | fail)) only [↓preR, postR, ↓w_join, Nat.reduceEqDiff, Nat.reduceAdd, Nat.reduceSub, Nat.reduceMul, Int.reduceNeg, Nat.reduceLT, Int.reduceToNat, Nat.reduceLeDiff, Nat.sub_zero, F8])
  refine wait_c h0 (fun i hx => ?_) (fun h1 => ?_) (fun h1 h2 => ?_) (fun σ1 h2 h3 h4 h1 => ?_) (fun σ1 h2 h3 h4 h5 h1 => ?_) (fun i c σ1 hl hc0 hc hkid hz hle h1 => ?_)
  · cases hf : vw l i with
    | none => exact absurd hf hx
    | some c => exact (hi.keys i c hf).1
  · (try simp (maxSteps := 1000000) (dsimp := false) (disch := (first | omega | (simp only [okR]; done) | (simp only [sizeR] <;> omega) | fail)) only [↓preR, postR, ↓w_join, Nat.reduceEqDiff, Nat.reduceAdd, Nat.reduceSub, Nat.reduceMul, Int.reduceNeg, Nat.reduceLT, Int.reduceToNat, Nat.reduceLeDiff, Nat.sub_zero])
    exact hk _ _ _ l _ (.waitNone a0 a1 a2 a3 h1) h0
  · (try simp (maxSteps := 1000000) (dsimp := false) (disch := (first | omega | (simp only [okR]; done) | (simp only [sizeR] <;> omega) | fail)) only [↓preR, postR, ↓w_join, Nat.reduceEqDiff, Nat.reduceAdd, Nat.reduceSub, Nat.reduceMul, Int.reduceNeg, Nat.reduceLT, Int.reduceToNat, Nat.reduceLeDiff, Nat.sub_zero])
    exact hk _ _ _ l _ (.waitArg a0 a1 a2 a3 h1 h2) h0
  · (try simp (maxSteps := 1000000) (dsimp := false) (disch := (first | omega | (simp only [okR]; done) | (simp only [sizeR] <;> omega) | fail)) only [↓preR, postR, ↓w_join, Nat.reduceEqDiff, Nat.reduceAdd, Nat.reduceSub, Nat.reduceMul, Int.reduceNeg, Nat.reduceLT, Int.reduceToNat, Nat.reduceLeDiff, Nat.sub_zero])
    exact hk _ _ _ l _ (.waitChild a0 a1 a2 a3 h2 h3 h4) h1
  · (try simp (maxSteps := 1000000) (dsimp := false) (disch := (first | omega | (simp only [okR]; done) | (simp only [sizeR] <;> omega) | fail)) only [↓preR, postR, ↓w_join, Nat.reduceEqDiff, Nat.reduceAdd, Nat.reduceSub, Nat.reduceMul, Int.reduceNeg, Nat.reduceLT, Int.reduceToNat, Nat.reduceLeDiff, Nat.sub_zero])
    exact hk _ _ _ l _ (.waitWait a0 a1 a2 a3 h2 h3 h4 h5) h1
  · (try simp (maxSteps := 1000000) (dsimp := false) (disch := (first | omega | (simp only [okR]; done) | (simp only [sizeR] <;> omega) | fail)) only [↓preR, postR, ↓w_join, Nat.reduceEqDiff, Nat.reduceAdd, Nat.reduceSub, Nat.reduceMul, Int.reduceNeg, Nat.reduceLT, Int.reduceToNat, Nat.reduceLeDiff, Nat.sub_zero])
    exact hk _ _ _ _ _ (by rw [vw_rem l i]; exact .wait a0 a1 a2 a3 hl hc0 hc hkid hz hle) h1
end
end Go.Proofs.Ytkponloccimdlaa
