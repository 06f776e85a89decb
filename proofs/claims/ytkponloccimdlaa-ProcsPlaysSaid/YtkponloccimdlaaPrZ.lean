/- Processes as the document's answer has them: its calls. Conditions: as each theorem says. -/
import Derived.Test.YtkponloccimdlaaPrY
namespace Go.Proofs.Ytkponloccimdlaa
open E Go.Lib PT
set_option linter.unusedVariables false
set_option linter.unusedSimpArgs false
set_option maxHeartbeats 1000000
set_option maxRecDepth 20000

section
variable {σ σ' : AS} {X : Ce} {R : List Ck} {k : Value → AS → Prop} {r g N : Nat} {f f' : PV} {p n pid : Int}
theorem st_zero (hi : Rg f N) {i : Int} : (f.get i).st = 0 ↔ f i = none := by
  constructor
  · intro h
    cases hf : f i with
    | none => rfl
    | some c =>
      rw [get_some hf] at h
      have := hi.st i c hf
      omega
  · intro h; rw [get_none h]
theorem rstore {i : Nat} {c : Option Pr} (h : Hs σ X (RT r g N f R)) (hi : i ≤ N) {cs : List Value} (hc : cs = (rowR N f).take (i * 3) ++ prC (c.getD ⟨0, 0, 0⟩) ++ (rowR N f).drop (i * 3 + 3)) : Hs (σ.put g (.cells cs)) X (RT r g N (f.put (i : Int) c) R) := by
  rw [rowR_all hi] at hc
  subst hc
  exact h.putAt 1 rfl
theorem rfork_c (hi : Rg f N) (h : Hs σ X (RT r g N f R)) (hN : N ≤ 1024)
    (hbad : ∀ σ', f.liv p = false → p ≠ 0 → Hs σ' X (RT r g N f R) → k (.tuple #[.int .i64 0, .int .i64 23]) σ')
    (hfull : ∀ σ', (f.liv p = true ∨ p = 0) → (∀ i, 1 ≤ i → i ≤ (N : Int) → f i ≠ none) → Hs σ' X (RT r g N f R) → k (.tuple #[.int .i64 0, .int .i64 32]) σ')
    (hok : ∀ a σ', (f.liv p = true ∨ p = 0) → 1 ≤ a → a ≤ (N : Int) → f a = none → (∀ i, 1 ≤ i → i < a → f i ≠ none) → Hs σ' X (RT r g N (f.put a (some ⟨1, p, 0⟩)) R) → k (.tuple #[.int .i64 a, .int .i64 0]) σ') :
    kCall Try.prog 26 [pp r, .int .i64 p] σ k := by
  refine f26 ?_
  (try simp (maxSteps := 1000000) (dsimp := false) (disch := (first | omega | (simp only [okR]; done) | (simp only [sizeR] <;> omega) | fail)) only [↓preR, postR, ↓w_stop, Nat.reduceEqDiff, Nat.reduceAdd, Nat.reduceSub, Nat.reduceMul, Int.reduceNeg, Nat.reduceLT, Int.reduceToNat, Nat.reduceLeDiff, Nat.sub_zero, F26])
  refine join_by fun J1 hJ1 => ?_
  have tail : (f.liv p = true ∨ p = 0) → J1 [] σ := by
    intro hl
    refine hJ1 _ _ ?_
    clear hJ1
    (try simp (maxSteps := 1000000) (dsimp := false) (disch := (first | omega | (simp only [okR]; done) | (simp only [sizeR] <;> omega) | fail)) only [↓preR, postR, ↓w_stop, Nat.reduceEqDiff, Nat.reduceAdd, Nat.reduceSub, Nat.reduceMul, Int.reduceNeg, Nat.reduceLT, Int.reduceToNat, Nat.reduceLeDiff, Nat.sub_zero])
    refine join_by fun J2 hJ2 => ?_
    refine loop_inv (fun nn xs s => ∃ j : Nat, xs = [.int .i64 j] ∧ 1 ≤ j ∧ j ≤ N + 1 ∧ (∀ i : Int, 1 ≤ i → i < j → f i ≠ none) ∧ Hs s X (RT r g N f R) ∧ nn = N + 1 - j) _ ⟨1, rfl, by omega, by omega, fun i h1 h2 => by omega, h, rfl⟩ ?_
    rintro _ _ s again ⟨j, rfl, hj1, hj, hno, h2, rfl⟩ hag
    have e1 := h2.obj
    have e2 := (h2.front 1 rfl).obj
    have hlen := rowR_len N f
    (try simp (maxSteps := 1000000) (dsimp := false) (disch := (first | omega | (simp only [okR]; done) | (simp only [sizeR] <;> omega) | fail)) only [↓preR, postR, ↓w_stop, Nat.reduceEqDiff, Nat.reduceAdd, Nat.reduceSub, Nat.reduceMul, Int.reduceNeg, Nat.reduceLT, Int.reduceToNat, Nat.reduceLeDiff, Nat.sub_zero, e1])
    refine join_now ?_
    by_cases hlt : j ≤ N
    rotate_left
    · (try simp (maxSteps := 1000000) (dsimp := false) (disch := (first | omega | (simp only [okR]; done) | (simp only [sizeR] <;> omega) | fail)) only [↓preR, postR, ↓w_stop, Nat.reduceEqDiff, Nat.reduceAdd, Nat.reduceSub, Nat.reduceMul, Int.reduceNeg, Nat.reduceLT, Int.reduceToNat, Nat.reduceLeDiff, Nat.sub_zero, e1])
      refine hJ2 _ _ ?_
      (try simp (maxSteps := 1000000) (dsimp := false) (disch := (first | omega | (simp only [okR]; done) | (simp only [sizeR] <;> omega) | fail)) only [↓preR, postR, ↓w_stop, Nat.reduceEqDiff, Nat.reduceAdd, Nat.reduceSub, Nat.reduceMul, Int.reduceNeg, Nat.reduceLT, Int.reduceToNat, Nat.reduceLeDiff, Nat.sub_zero])
      exact hfull _ hl (fun i h1 h3 => hno i h1 (by omega)) h2
    have c0 := row0 (f := f) (N := N) (i := j) hlt
    (try simp (maxSteps := 1000000) (dsimp := false) (disch := (first | omega | (simp only [okR]; done) | (simp only [sizeR] <;> omega) | fail)) only [↓preR, postR, ↓w_stop, Nat.reduceEqDiff, Nat.reduceAdd, Nat.reduceSub, Nat.reduceMul, Int.reduceNeg, Nat.reduceLT, Int.reduceToNat, Nat.reduceLeDiff, Nat.sub_zero, e1])
    refine join_by fun J5 hJ5 => ?_
    by_cases hz : f (j : Int) = none
    · have hs : (f.get (j : Int)).st = 0 := (st_zero hi).2 hz
      rw [hs] at c0
      (try simp (maxSteps := 1000000) (dsimp := false) (disch := (first | omega | (simp only [okR]; done) | (simp only [sizeR] <;> omega) | fail)) only [↓preR, postR, ↓w_stop, Nat.reduceEqDiff, Nat.reduceAdd, Nat.reduceSub, Nat.reduceMul, Int.reduceNeg, Nat.reduceLT, Int.reduceToNat, Nat.reduceLeDiff, Nat.sub_zero, e1, e2, c0, hlen])
      refine hok _ _ hl (by omega) (by omega) hz hno (rstore h2 hlt ?_)
      simp
    · have hs : ¬ (f.get (j : Int)).st = 0 := fun h => hz ((st_zero hi).1 h)
      (try simp (maxSteps := 1000000) (dsimp := false) (disch := (first | omega | (simp only [okR]; done) | (simp only [sizeR] <;> omega) | fail)) only [↓preR, postR, ↓w_stop, Nat.reduceEqDiff, Nat.reduceAdd, Nat.reduceSub, Nat.reduceMul, Int.reduceNeg, Nat.reduceLT, Int.reduceToNat, Nat.reduceLeDiff, Nat.sub_zero, e1, e2, c0, hs])
      refine hJ5 _ _ ?_
      (try simp (maxSteps := 1000000) (dsimp := false) (disch := (first | omega | (simp only [okR]; done) | (simp only [sizeR] <;> omega) | fail)) only [↓preR, postR, ↓w_stop, Nat.reduceEqDiff, Nat.reduceAdd, Nat.reduceSub, Nat.reduceMul, Int.reduceNeg, Nat.reduceLT, Int.reduceToNat, Nat.reduceLeDiff, Nat.sub_zero])
      refine hag _ _ _ ⟨j + 1, rfl, by omega, by omega, fun i h1 h3 => ?_, h2, rfl⟩ (by omega)
      by_cases hij : i = j
      · subst hij; exact hz
      · exact hno i h1 (by omega)
  clear hJ1
  by_cases h0 : p = 0
  · subst h0
    (try simp (maxSteps := 1000000) (dsimp := false) (disch := (first | omega | (simp only [okR]; done) | (simp only [sizeR] <;> omega) | fail)) only [↓preR, postR, ↓w_stop, Nat.reduceEqDiff, Nat.reduceAdd, Nat.reduceSub, Nat.reduceMul, Int.reduceNeg, Nat.reduceLT, Int.reduceToNat, Nat.reduceLeDiff, Nat.sub_zero])
    exact tail (.inr rfl)
  · (try simp (maxSteps := 1000000) (dsimp := false) (disch := (first | omega | (simp only [okR]; done) | (simp only [sizeR] <;> omega) | fail)) only [↓preR, postR, ↓w_stop, Nat.reduceEqDiff, Nat.reduceAdd, Nat.reduceSub, Nat.reduceMul, Int.reduceNeg, Nat.reduceLT, Int.reduceToNat, Nat.reduceLeDiff, Nat.sub_zero, h0])
    refine rlives_c hi h hN ?_
    cases hl : f.liv p with
    | false =>
      (try simp (maxSteps := 1000000) (dsimp := false) (disch := (first | omega | (simp only [okR]; done) | (simp only [sizeR] <;> omega) | fail)) only [↓preR, postR, ↓w_stop, Nat.reduceEqDiff, Nat.reduceAdd, Nat.reduceSub, Nat.reduceMul, Int.reduceNeg, Nat.reduceLT, Int.reduceToNat, Nat.reduceLeDiff, Nat.sub_zero])
      exact hbad _ hl h0 h
    | true =>
      (try simp (maxSteps := 1000000) (dsimp := false) (disch := (first | omega | (simp only [okR]; done) | (simp only [sizeR] <;> omega) | fail)) only [↓preR, postR, ↓w_stop, Nat.reduceEqDiff, Nat.reduceAdd, Nat.reduceSub, Nat.reduceMul, Int.reduceNeg, Nat.reduceLT, Int.reduceToNat, Nat.reduceLeDiff, Nat.sub_zero])
      exact tail (.inl hl)
theorem rowR_new : rowR N (fun _ => none) = (List.replicate (N + 1) [Value.int .i64 0, .int .i64 0, .int .i64 0]).flatten := by
  unfold rowR flat
  rw [List.append_nil, List.map_map]
  congr 1
  rw [List.eq_replicate_iff]
  refine ⟨by simp, fun b hb => ?_⟩
  obtain ⟨i, _, rfl⟩ := List.mem_map.1 hb
  rfl
theorem rnew_c {m : Int} (h : Hs σ X R) (hk : ∀ r g N σ', m = (N : Nat) → 1 ≤ N → N ≤ 1024 → Hs σ' X (RT r g N (fun _ => none) R) → k (.tuple #[pp r, .int .i64 0]) σ') (hb : (m < 1 ∨ 1024 < m) → k (.tuple #[.pointer none, .int .i64 1]) σ) :
    kCall Try.prog 14 [.int .i64 m] σ k := by
  refine f14 ?_
  by_cases h1 : m < 1
  · (try simp (maxSteps := 1000000) (dsimp := false) (disch := (first | omega | (simp only [okR]; done) | (simp only [sizeR] <;> omega) | fail)) only [↓preR, postR, ↓w_join, Nat.reduceEqDiff, Nat.reduceAdd, Nat.reduceSub, Nat.reduceMul, Int.reduceNeg, Nat.reduceLT, Int.reduceToNat, Nat.reduceLeDiff, Nat.sub_zero, F14])
    exact hb (.inl h1)
  by_cases h2 : 1024 < m
  · (try simp (maxSteps := 1000000) (dsimp := false) (disch := (first | omega | (simp only [okR]; done) | (simp only [sizeR] <;> omega) | fail)) only [↓preR, postR, ↓w_join, Nat.reduceEqDiff, Nat.reduceAdd, Nat.reduceSub, Nat.reduceMul, Int.reduceNeg, Nat.reduceLT, Int.reduceToNat, Nat.reduceLeDiff, Nat.sub_zero, F14])
    exact hb (.inr h2)
  obtain ⟨N, rfl⟩ : ∃ N : Nat, m = (N : Int) := ⟨m.toNat, by omega⟩
  (try simp (maxSteps := 1000000) (dsimp := false) (disch := (first | omega | (simp only [okR]; done) | (simp only [sizeR] <;> omega) | fail)) only [↓preR, postR, ↓w_join, Nat.reduceEqDiff, Nat.reduceAdd, Nat.reduceSub, Nat.reduceMul, Int.reduceNeg, Nat.reduceLT, Int.reduceToNat, Nat.reduceLeDiff, Nat.sub_zero, F14])
  refine hk (σ.n + 1) σ.n N _ rfl (by omega) (by omega) ?_
  have h3 := (h.new (cs := (List.replicate (N + 1) [Value.int .i64 0, .int .i64 0, .int .i64 0]).flatten)).new (cs := [.slice (some ⟨σ.n, 0, none⟩) (N + 1) (N + 1)])
  show Hs _ X (_ :: Cel _ (rowR N (fun _ => none)) :: R)
  rw [rowR_new]
  exact h3
theorem rmany_c (hi : Rg f N) (h : Hs σ X (RT r g N f R)) (hN : N ≤ 1024) (hk : ∀ σ', Hs σ' X (RT r g N f R) → k (.int .i64 (cnt f N)) σ') :
    kCall Try.prog 16 [pp r] σ k := by
  refine f16 ?_
  (try simp (maxSteps := 1000000) (dsimp := false) (disch := (first | omega | (simp only [okR]; done) | (simp only [sizeR] <;> omega) | fail)) only [↓preR, postR, ↓w_stop, Nat.reduceEqDiff, Nat.reduceAdd, Nat.reduceSub, Nat.reduceMul, Int.reduceNeg, Nat.reduceLT, Int.reduceToNat, Nat.reduceLeDiff, Nat.sub_zero, F16])
  refine join_by fun J1 hJ1 => ?_
  refine loop_inv (fun nn xs s => ∃ j : Nat, xs = [.int .i64 (cnt f j), .int .i64 ((j : Int) + 1)] ∧ j ≤ N ∧ Hs s X (RT r g N f R) ∧ nn = N - j) _ ⟨0, rfl, by omega, h, rfl⟩ ?_
  rintro _ _ s again ⟨j, rfl, hj, h2, rfl⟩ hag
  have e1 := h2.obj
  have e2 := (h2.front 1 rfl).obj
  have hc := cnt_le f j
  (try simp (maxSteps := 1000000) (dsimp := false) (disch := (first | omega | (simp only [okR]; done) | (simp only [sizeR] <;> omega) | fail)) only [↓preR, postR, ↓w_stop, Nat.reduceEqDiff, Nat.reduceAdd, Nat.reduceSub, Nat.reduceMul, Int.reduceNeg, Nat.reduceLT, Int.reduceToNat, Nat.reduceLeDiff, Nat.sub_zero, e1])
  refine join_now ?_
  by_cases hlt : j < N
  rotate_left
  · (try simp (maxSteps := 1000000) (dsimp := false) (disch := (first | omega | (simp only [okR]; done) | (simp only [sizeR] <;> omega) | fail)) only [↓preR, postR, ↓w_stop, Nat.reduceEqDiff, Nat.reduceAdd, Nat.reduceSub, Nat.reduceMul, Int.reduceNeg, Nat.reduceLT, Int.reduceToNat, Nat.reduceLeDiff, Nat.sub_zero, e1])
    refine hJ1 _ _ ?_
    have : j = N := by omega
    subst this
    (try simp (maxSteps := 1000000) (dsimp := false) (disch := (first | omega | (simp only [okR]; done) | (simp only [sizeR] <;> omega) | fail)) only [↓preR, postR, ↓w_stop, Nat.reduceEqDiff, Nat.reduceAdd, Nat.reduceSub, Nat.reduceMul, Int.reduceNeg, Nat.reduceLT, Int.reduceToNat, Nat.reduceLeDiff, Nat.sub_zero])
    exact hk _ h2
  have c0 := row0 (f := f) (N := N) (i := j + 1) (by omega)
  have ex : ((j + 1 : Nat) : Int) = (j : Int) + 1 := by omega
  have en : ((j : Int) + 1).toNat = j + 1 := by omega
  have hs := cnt_succ f j
  (try simp (maxSteps := 1000000) (dsimp := false) (disch := (first | omega | (simp only [okR]; done) | (simp only [sizeR] <;> omega) | fail)) only [↓preR, postR, ↓w_stop, Nat.reduceEqDiff, Nat.reduceAdd, Nat.reduceSub, Nat.reduceMul, Int.reduceNeg, Nat.reduceLT, Int.reduceToNat, Nat.reduceLeDiff, Nat.sub_zero, e1])
  refine join_by fun J4 hJ4 => ?_
  have tail : ∀ m : Nat, m = cnt f (j + 1) → J4 [.int .i64 m] s := by
    intro m hm
    subst hm
    refine hJ4 _ _ ?_
    (try simp (maxSteps := 1000000) (dsimp := false) (disch := (first | omega | (simp only [okR]; done) | (simp only [sizeR] <;> omega) | fail)) only [↓preR, postR, ↓w_stop, Nat.reduceEqDiff, Nat.reduceAdd, Nat.reduceSub, Nat.reduceMul, Int.reduceNeg, Nat.reduceLT, Int.reduceToNat, Nat.reduceLeDiff, Nat.sub_zero])
    exact hag _ _ _ ⟨j + 1, rfl, by omega, h2, rfl⟩ (by omega)
  clear hJ4
  by_cases hz : f ((j : Int) + 1) = none
  · have hst : (f.get ((j : Int) + 1)).st = 0 := (st_zero hi).2 hz
    rw [ex, hst] at c0
    rw [hz] at hs
    (try simp (maxSteps := 1000000) (dsimp := false) (disch := (first | omega | (simp only [okR]; done) | (simp only [sizeR] <;> omega) | fail)) only [↓preR, postR, ↓w_stop, Nat.reduceEqDiff, Nat.reduceAdd, Nat.reduceSub, Nat.reduceMul, Int.reduceNeg, Nat.reduceLT, Int.reduceToNat, Nat.reduceLeDiff, Nat.sub_zero, e1, e2, en, c0])
    exact tail _ hs.symm
  · obtain ⟨c, hf⟩ : ∃ c, f ((j : Int) + 1) = some c := Option.ne_none_iff_exists'.1 hz
    have hst := hi.st _ c hf
    have hp : 0 < c.st := by omega
    rw [ex, get_some hf] at c0
    rw [hf] at hs
    (try simp (maxSteps := 1000000) (dsimp := false) (disch := (first | omega | (simp only [okR]; done) | (simp only [sizeR] <;> omega) | fail)) only [↓preR, postR, ↓w_stop, Nat.reduceEqDiff, Nat.reduceAdd, Nat.reduceSub, Nat.reduceMul, Int.reduceNeg, Nat.reduceLT, Int.reduceToNat, Nat.reduceLeDiff, Nat.sub_zero, e1, e2, en, c0, hp])
    exact tail _ hs.symm
theorem rwait_c (hi : Rg f N) (h : Hs σ X (RT r g N f R)) (hN : N ≤ 1024)
    (hbad : ∀ σ', f.liv p = false → Hs σ' X (RT r g N f R) → k (.tuple #[.int .i64 0, .int .i64 0, .int .i64 23]) σ')
    (harg : ∀ σ', f.liv p = true → n < 0 → Hs σ' X (RT r g N f R) → k (.tuple #[.int .i64 0, .int .i64 0, .int .i64 1]) σ')
    (hnone : ∀ σ', f.liv p = true → 0 ≤ n → (∀ i c, f i = some c → ¬ kid p n i c) → Hs σ' X (RT r g N f R) → k (.tuple #[.int .i64 0, .int .i64 0, .int .i64 31]) σ')
    (hwait : ∀ σ', f.liv p = true → 0 ≤ n → (∃ i c, f i = some c ∧ kid p n i c) → (∀ i c, f i = some c → kid p n i c → c.st ≠ 3) → Hs σ' X (RT r g N f R) → k (.tuple #[.int .i64 0, .int .i64 0, .int .i64 30]) σ')
    (hok : ∀ i c σ', f.liv p = true → 0 ≤ n → f i = some c → kid p n i c → c.st = 3 → (∀ j c, f j = some c → kid p n j c → c.st = 3 → i ≤ j) → Hs σ' X (RT r g N (f.put i none) R) → k (.tuple #[.int .i64 i, .int .i64 c.sta, .int .i64 0]) σ') :
    kCall Try.prog 29 [pp r, .int .i64 p, .int .i64 n] σ k := by
  refine f29 ?_
  (try simp (maxSteps := 1000000) (dsimp := false) (disch := (first | omega | (simp only [okR]; done) | (simp only [sizeR] <;> omega) | fail)) only [↓preR, postR, ↓w_stop, Nat.reduceEqDiff, Nat.reduceAdd, Nat.reduceSub, Nat.reduceMul, Int.reduceNeg, Nat.reduceLT, Int.reduceToNat, Nat.reduceLeDiff, Nat.sub_zero, F29])
  refine join_by fun J1 hJ1 => ?_
  refine rlives_c hi h hN ?_
  cases hl : f.liv p with
  | false =>
    (try simp (maxSteps := 1000000) (dsimp := false) (disch := (first | omega | (simp only [okR]; done) | (simp only [sizeR] <;> omega) | fail)) only [↓preR, postR, ↓w_stop, Nat.reduceEqDiff, Nat.reduceAdd, Nat.reduceSub, Nat.reduceMul, Int.reduceNeg, Nat.reduceLT, Int.reduceToNat, Nat.reduceLeDiff, Nat.sub_zero])
    exact hbad _ hl h
  | true =>
  (try simp (maxSteps := 1000000) (dsimp := false) (disch := (first | omega | (simp only [okR]; done) | (simp only [sizeR] <;> omega) | fail)) only [↓preR, postR, ↓w_stop, Nat.reduceEqDiff, Nat.reduceAdd, Nat.reduceSub, Nat.reduceMul, Int.reduceNeg, Nat.reduceLT, Int.reduceToNat, Nat.reduceLeDiff, Nat.sub_zero])
  refine hJ1 _ _ ?_
  clear hJ1
  (try simp (maxSteps := 1000000) (dsimp := false) (disch := (first | omega | (simp only [okR]; done) | (simp only [sizeR] <;> omega) | fail)) only [↓preR, postR, ↓w_stop, Nat.reduceEqDiff, Nat.reduceAdd, Nat.reduceSub, Nat.reduceMul, Int.reduceNeg, Nat.reduceLT, Int.reduceToNat, Nat.reduceLeDiff, Nat.sub_zero])
  refine join_by fun J2 hJ2 => ?_
  by_cases hn : n < 0
  · (try simp (maxSteps := 1000000) (dsimp := false) (disch := (first | omega | (simp only [okR]; done) | (simp only [sizeR] <;> omega) | fail)) only [↓preR, postR, ↓w_stop, Nat.reduceEqDiff, Nat.reduceAdd, Nat.reduceSub, Nat.reduceMul, Int.reduceNeg, Nat.reduceLT, Int.reduceToNat, Nat.reduceLeDiff, Nat.sub_zero, hn])
    exact harg _ hl hn h
  (try simp (maxSteps := 1000000) (dsimp := false) (disch := (first | omega | (simp only [okR]; done) | (simp only [sizeR] <;> omega) | fail)) only [↓preR, postR, ↓w_stop, Nat.reduceEqDiff, Nat.reduceAdd, Nat.reduceSub, Nat.reduceMul, Int.reduceNeg, Nat.reduceLT, Int.reduceToNat, Nat.reduceLeDiff, Nat.sub_zero, hn])
  refine hJ2 _ _ ?_
  clear hJ2
  (try simp (maxSteps := 1000000) (dsimp := false) (disch := (first | omega | (simp only [okR]; done) | (simp only [sizeR] <;> omega) | fail)) only [↓preR, postR, ↓w_stop, Nat.reduceEqDiff, Nat.reduceAdd, Nat.reduceSub, Nat.reduceMul, Int.reduceNeg, Nat.reduceLT, Int.reduceToNat, Nat.reduceLeDiff, Nat.sub_zero])
  refine join_by fun J3 hJ3 => ?_
  refine loop_inv (fun nn xs s => ∃ (e : Int) (j : Nat), xs = [.int .i64 e, .int .i64 j] ∧ 1 ≤ j ∧ j ≤ N + 1 ∧ (∀ (i : Int) c, f i = some c → i < j → kid p n i c → c.st ≠ 3) ∧ ((e = 31 ∧ ∀ (i : Int) c, f i = some c → i < j → ¬ kid p n i c) ∨ (e = 30 ∧ ∃ i c, f i = some c ∧ kid p n i c)) ∧ Hs s X (RT r g N f R) ∧ nn = N + 1 - j) _
    ⟨31, 1, rfl, by omega, by omega, fun i c h1 h2 => by have := hi.keys i c h1; omega, .inl ⟨rfl, fun i c h1 h2 => by have := hi.keys i c h1; omega⟩, h, rfl⟩ ?_
  rintro _ _ s again ⟨e, j, rfl, hj1, hj, hz, he, h2, rfl⟩ hag
  have e1 := h2.obj
  have e2 := (h2.front 1 rfl).obj
  have hlen := rowR_len N f
  (try simp (maxSteps := 1000000) (dsimp := false) (disch := (first | omega | (simp only [okR]; done) | (simp only [sizeR] <;> omega) | fail)) only [↓preR, postR, ↓w_stop, Nat.reduceEqDiff, Nat.reduceAdd, Nat.reduceSub, Nat.reduceMul, Int.reduceNeg, Nat.reduceLT, Int.reduceToNat, Nat.reduceLeDiff, Nat.sub_zero, e1])
  refine join_now ?_
  by_cases hlt : j ≤ N
  rotate_left
  · (try simp (maxSteps := 1000000) (dsimp := false) (disch := (first | omega | (simp only [okR]; done) | (simp only [sizeR] <;> omega) | fail)) only [↓preR, postR, ↓w_stop, Nat.reduceEqDiff, Nat.reduceAdd, Nat.reduceSub, Nat.reduceMul, Int.reduceNeg, Nat.reduceLT, Int.reduceToNat, Nat.reduceLeDiff, Nat.sub_zero, e1])
    refine hJ3 _ _ ?_
    (try simp (maxSteps := 1000000) (dsimp := false) (disch := (first | omega | (simp only [okR]; done) | (simp only [sizeR] <;> omega) | fail)) only [↓preR, postR, ↓w_stop, Nat.reduceEqDiff, Nat.reduceAdd, Nat.reduceSub, Nat.reduceMul, Int.reduceNeg, Nat.reduceLT, Int.reduceToNat, Nat.reduceLeDiff, Nat.sub_zero])
    rcases he with ⟨rfl, he⟩ | ⟨rfl, he⟩
    · exact hnone _ hl (by omega) (fun i c h1 => he i c h1 (by have := hi.keys i c h1; omega)) h2
    · exact hwait _ hl (by omega) he (fun i c h1 => hz i c h1 (by have := hi.keys i c h1; omega)) h2
  have c0 := row0 (f := f) (N := N) (i := j) hlt
  have c1 := row1 (f := f) (N := N) (i := j) hlt
  have c2 := row2 (f := f) (N := N) (i := j) hlt
  (try simp (maxSteps := 1000000) (dsimp := false) (disch := (first | omega | (simp only [okR]; done) | (simp only [sizeR] <;> omega) | fail)) only [↓preR, postR, ↓w_stop, Nat.reduceEqDiff, Nat.reduceAdd, Nat.reduceSub, Nat.reduceMul, Int.reduceNeg, Nat.reduceLT, Int.reduceToNat, Nat.reduceLeDiff, Nat.sub_zero, e1])
  refine join_by fun J6 hJ6 => ?_
  have tail : ∀ e' : Int, (∀ (i : Int) c, f i = some c → i < (j + 1 : Nat) → kid p n i c → c.st ≠ 3) → ((e' = 31 ∧ ∀ (i : Int) c, f i = some c → i < (j + 1 : Nat) → ¬ kid p n i c) ∨ (e' = 30 ∧ ∃ i c, f i = some c ∧ kid p n i c)) → J6 [.int .i64 e'] s := by
    intro e' h3 h4
    refine hJ6 _ _ ?_
    (try simp (maxSteps := 1000000) (dsimp := false) (disch := (first | omega | (simp only [okR]; done) | (simp only [sizeR] <;> omega) | fail)) only [↓preR, postR, ↓w_stop, Nat.reduceEqDiff, Nat.reduceAdd, Nat.reduceSub, Nat.reduceMul, Int.reduceNeg, Nat.reduceLT, Int.reduceToNat, Nat.reduceLeDiff, Nat.sub_zero])
    exact hag _ _ _ ⟨e', j + 1, rfl, by omega, by omega, h3, h4, h2, rfl⟩ (by omega)
  have skip : (∀ c, f (j : Int) = some c → ¬ kid p n j c) → J6 [.int .i64 e] s := by
    intro hno
    have key : ∀ {i : Int} {c : Pr}, f i = some c → i < (j + 1 : Nat) → kid p n i c → i < (j : Int) := by
      intro i c h1 h3 h4
      by_cases hij : i = j
      · subst hij; exact absurd h4 (hno c h1)
      · omega
    refine tail e (fun i c h1 h3 h4 => hz i c h1 (key h1 h3 h4) h4) ?_
    rcases he with ⟨h5, he⟩ | he
    · exact .inl ⟨h5, fun i c h1 h3 h4 => he i c h1 (key h1 h3 h4) h4⟩
    · exact .inr he
  clear hJ6
  (try simp (maxSteps := 1000000) (dsimp := false) (disch := (first | omega | (simp only [okR]; done) | (simp only [sizeR] <;> omega) | fail)) only [↓preR, postR, ↓w_stop, Nat.reduceEqDiff, Nat.reduceAdd, Nat.reduceSub, Nat.reduceMul, Int.reduceNeg, Nat.reduceLT, Int.reduceToNat, Nat.reduceLeDiff, Nat.sub_zero])
  refine join_by fun J7 hJ7 => ?_
  cases hf : f (j : Int) with
  | none =>
    rw [get_none hf] at c0
    (try simp (maxSteps := 1000000) (dsimp := false) (disch := (first | omega | (simp only [okR]; done) | (simp only [sizeR] <;> omega) | fail)) only [↓preR, postR, ↓w_stop, Nat.reduceEqDiff, Nat.reduceAdd, Nat.reduceSub, Nat.reduceMul, Int.reduceNeg, Nat.reduceLT, Int.reduceToNat, Nat.reduceLeDiff, Nat.sub_zero, e1, e2, c0])
    exact skip (fun c h1 => by rw [hf] at h1; cases h1)
  | some c =>
    rw [get_some hf] at c0 c1 c2
    have hst := hi.st _ c hf
    have hs0 : ¬ c.st = 0 := by omega
    by_cases hp : c.par = p
    rotate_left
    · (try simp (maxSteps := 1000000) (dsimp := false) (disch := (first | omega | (simp only [okR]; done) | (simp only [sizeR] <;> omega) | fail)) only [↓preR, postR, ↓w_stop, Nat.reduceEqDiff, Nat.reduceAdd, Nat.reduceSub, Nat.reduceMul, Int.reduceNeg, Nat.reduceLT, Int.reduceToNat, Nat.reduceLeDiff, Nat.sub_zero, e1, e2, c0, c1, hs0, hp])
      exact skip (fun c' h1 h3 => by rw [hf] at h1; cases h1; exact hp h3.1)
    by_cases hk0 : n = 0 ∨ n = (j : Int)
    rotate_left
    · have hn0 : ¬ n = 0 := fun h => hk0 (.inl h)
      have hnj : ¬ n = (j : Int) := fun h => hk0 (.inr h)
      (try simp (maxSteps := 1000000) (dsimp := false) (disch := (first | omega | (simp only [okR]; done) | (simp only [sizeR] <;> omega) | fail)) only [↓preR, postR, ↓w_stop, Nat.reduceEqDiff, Nat.reduceAdd, Nat.reduceSub, Nat.reduceMul, Int.reduceNeg, Nat.reduceLT, Int.reduceToNat, Nat.reduceLeDiff, Nat.sub_zero, e1, e2, c0, c1, hs0, hp, hn0, hnj])
      exact skip (fun c' h1 h3 => hk0 h3.2)
    have go : J7 [] s → _ := fun h => h
    have fin : J7 [] s := by
      refine hJ7 _ _ ?_
      by_cases h3 : c.st = 3
      · rw [h3] at c0
        (try simp (maxSteps := 1000000) (dsimp := false) (disch := (first | omega | (simp only [okR]; done) | (simp only [sizeR] <;> omega) | fail)) only [↓preR, postR, ↓w_stop, Nat.reduceEqDiff, Nat.reduceAdd, Nat.reduceSub, Nat.reduceMul, Int.reduceNeg, Nat.reduceLT, Int.reduceToNat, Nat.reduceLeDiff, Nat.sub_zero, e1, e2, c0, c2, hlen])
        refine hok _ c _ hl (by omega) hf ⟨hp, hk0⟩ h3 (fun i c' h4 h5 h6 => ?_) (rstore (c := none) h2 hlt (by simp))
        by_cases hij : i < (j : Int)
        · exact absurd h6 (hz i c' h4 hij h5)
        · omega
      · (try simp (maxSteps := 1000000) (dsimp := false) (disch := (first | omega | (simp only [okR]; done) | (simp only [sizeR] <;> omega) | fail)) only [↓preR, postR, ↓w_stop, Nat.reduceEqDiff, Nat.reduceAdd, Nat.reduceSub, Nat.reduceMul, Int.reduceNeg, Nat.reduceLT, Int.reduceToNat, Nat.reduceLeDiff, Nat.sub_zero, e1, e2, c0, h3])
        refine tail 30 (fun i c' h4 h5 h6 => ?_) (.inr ⟨rfl, _, c, hf, hp, hk0⟩)
        by_cases hij : i = j
        · subst hij; rw [hf] at h4; cases h4; exact h3
        · exact hz i c' h4 (by omega) h6
    clear hJ7 go
    by_cases hn0 : n = 0
    · (try simp (maxSteps := 1000000) (dsimp := false) (disch := (first | omega | (simp only [okR]; done) | (simp only [sizeR] <;> omega) | fail)) only [↓preR, postR, ↓w_stop, Nat.reduceEqDiff, Nat.reduceAdd, Nat.reduceSub, Nat.reduceMul, Int.reduceNeg, Nat.reduceLT, Int.reduceToNat, Nat.reduceLeDiff, Nat.sub_zero, e1, e2, c0, c1, hs0, hp, hn0])
      exact fin
    · have hnj : n = (j : Int) := hk0.resolve_left hn0
      have hj0 : ¬ (j : Int) = 0 := by omega
      subst hnj
      (try simp (maxSteps := 1000000) (dsimp := false) (disch := (first | omega | (simp only [okR]; done) | (simp only [sizeR] <;> omega) | fail)) only [↓preR, postR, ↓w_stop, Nat.reduceEqDiff, Nat.reduceAdd, Nat.reduceSub, Nat.reduceMul, Int.reduceNeg, Nat.reduceLT, Int.reduceToNat, Nat.reduceLeDiff, Nat.sub_zero, e1, e2, c0, c1, hs0, hp, hj0])
      exact fin
end
end Go.Proofs.Ytkponloccimdlaa
