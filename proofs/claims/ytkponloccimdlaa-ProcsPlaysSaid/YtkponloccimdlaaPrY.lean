/- Processes as the document's answer has them: a row of all of them. Conditions: as each theorem says. -/
import Derived.Test.YtkponloccimdlaaPrX
import Derived.Test.YtkponloccimdlaaFt
import Derived.Test.YtkponloccimdlaaGd
namespace Go.Proofs.Ytkponloccimdlaa
open E Go.Lib PT
set_option linter.unusedVariables false
set_option linter.unusedSimpArgs false
set_option maxHeartbeats 1000000
set_option maxRecDepth 20000

/-- All processes up to N, flat. -/
def rowR (N : Nat) (f : PV) : List Value := flat prC ((List.range (N + 1)).map fun i : Nat => f.get (i : Int)) []
theorem rowR_len (N : Nat) (f : PV) : (rowR N f).length = (N + 1) * 3 := by
  unfold rowR
  rw [flat_len (z := 3) (fun a => rfl)]
  simp
theorem rowR_at {N i j : Nat} {f : PV} (hi : i ≤ N) (hj : j < 3) : (rowR N f)[i * 3 + j]? = (prC (f.get (i : Int)))[j]? := by
  unfold rowR
  exact flat_get (z := 3) (fun a => rfl) (by rw [List.getElem?_map, List.getElem?_range (by omega)]; rfl) hj
theorem get_put {f : PV} {i j : Int} {c : Option Pr} : (f.put i c).get j = if j = i then c.getD ⟨0, 0, 0⟩ else f.get j := by
  unfold PV.get PV.put
  split <;> rfl
theorem row_put {N i : Nat} {f : PV} {c : Option Pr} (hi : i ≤ N) : ((List.range (N + 1)).map fun i : Nat => f.get (i : Int)).set i (c.getD ⟨0, 0, 0⟩) = (List.range (N + 1)).map fun k : Nat => (f.put (i : Int) c).get (k : Int) := by
  apply List.ext_getElem?
  intro k
  rw [List.getElem?_set, List.length_map, List.length_range, List.getElem?_map, List.getElem?_map]
  by_cases hk : k < N + 1
  · rw [List.getElem?_range hk]
    simp only [Option.map_some]
    rw [get_put]
    by_cases h : i = k
    · subst h; simp [hk]
    · have : ¬ (k : Int) = (i : Int) := by omega
      simp [h, this]
  · have h1 : (List.range (N + 1))[k]? = none := List.getElem?_eq_none (by rw [List.length_range]; omega)
    rw [h1]
    have : ¬ i = k := by omega
    simp [this]
theorem rowR_all {N i : Nat} {f : PV} {c : Option Pr} (hi : i ≤ N) : (rowR N f).take (i * 3) ++ prC (c.getD ⟨0, 0, 0⟩) ++ (rowR N f).drop (i * 3 + 3) = rowR N (f.put (i : Int) c) := by
  unfold rowR
  rw [flat_put (z := 3) (fun a => rfl) (i := i) (by rw [List.getElem?_map, List.getElem?_range (by omega)]; rfl), row_put hi]
theorem rowR_set {N i j : Nat} {f : PV} {c : Pr} {v : Value} (hi : i ≤ N) (hj : j < 3) (h : prC c = (prC (f.get (i : Int))).set j v) : (rowR N f).set (i * 3 + j) v = rowR N (f.put (i : Int) (some c)) := by
  unfold rowR
  rw [flat_set (z := 3) (a' := c) (fun a => rfl) (i := i) (by rw [List.getElem?_map, List.getElem?_range (by omega)]; rfl) hj h]
  have := row_put (f := f) (c := some c) hi
  simp only [Option.getD_some] at this
  rw [this]
/-- Keys in their range, states of the three. -/
structure Rg (f : PV) (most : Int) : Prop where
  keys : ∀ i c, f i = some c → 1 ≤ i ∧ i ≤ most
  st : ∀ i c, f i = some c → c.st = 1 ∨ c.st = 2 ∨ c.st = 3
theorem Inv.rg {f : PV} {most : Int} (h : Inv f most) : Rg f most := ⟨h.keys, h.st⟩
theorem Rg.put {f : PV} {most i : Int} {c : Pr} (h : Rg f most) (h1 : 1 ≤ i) (h2 : i ≤ most) (hs : c.st = 1 ∨ c.st = 2 ∨ c.st = 3) : Rg (f.put i (some c)) most := by
  refine ⟨fun j d hd => ?_, fun j d hd => ?_⟩
  · unfold PV.put at hd
    split at hd
    · rename_i e; rw [e]; exact ⟨h1, h2⟩
    · exact h.keys j d hd
  · unfold PV.put at hd
    split at hd
    · injection hd with hd; subst hd; exact hs
    · exact h.st j d hd
theorem Rg.gone {f : PV} {most i : Int} (h : Rg f most) : Rg (f.put i none) most := by
  refine ⟨fun j d hd => ?_, fun j d hd => ?_⟩
  · unfold PV.put at hd
    split at hd
    · cases hd
    · exact h.keys j d hd
  · unfold PV.put at hd
    split at hd
    · cases hd
    · exact h.st j d hd
theorem Rg.turn1 {f : PV} {most i : Int} (h : Rg f most) : Rg (f.turn i 1) most := by
  unfold PV.turn
  split
  · rename_i hl
    obtain ⟨c, hc, _⟩ := PV.liv_iff.1 hl
    rw [hc]
    exact h.put (h.keys i c hc).1 (h.keys i c hc).2 (.inl rfl)
  · exact h
/-- The table of the document's answer. -/
abbrev RT (r g N : Nat) (f : PV) (R : List Ck) : List Ck := Cel r [.slice (some ⟨g, 0, none⟩) (N + 1) (N + 1)] :: Cel g (rowR N f) :: R
section
variable {σ σ' : AS} {X : Ce} {R : List Ck} {k : Value → AS → Prop} {r g N : Nat} {f f' : PV} {p n pid : Int}
theorem row0 {i : Nat} (hi : i ≤ N) : (rowR N f)[i * 3]? = some (.int .i64 (f.get (i : Int)).st) := rowR_at (j := 0) hi (by omega)
theorem row1 {i : Nat} (hi : i ≤ N) : (rowR N f)[i * 3 + 1]? = some (.int .i64 (f.get (i : Int)).par) := rowR_at (j := 1) hi (by omega)
theorem row2 {i : Nat} (hi : i ≤ N) : (rowR N f)[i * 3 + 2]? = some (.int .i64 (f.get (i : Int)).sta) := rowR_at (j := 2) hi (by omega)
theorem set0 {i : Nat} {s : Int} {c : Pr} (hi : i ≤ N) (hc : f.get (i : Int) = c) : (rowR N f).set (i * 3) (.int .i64 s) = rowR N (f.put (i : Int) (some ⟨s, c.par, c.sta⟩)) := rowR_set (j := 0) hi (by omega) (by rw [hc]; rfl)
theorem set1 {i : Nat} {s : Int} {c : Pr} (hi : i ≤ N) (hc : f.get (i : Int) = c) : (rowR N f).set (i * 3 + 1) (.int .i64 s) = rowR N (f.put (i : Int) (some ⟨c.st, s, c.sta⟩)) := rowR_set (j := 1) hi (by omega) (by rw [hc]; rfl)
theorem out_none (hi : Rg f N) (hr : ¬ (1 ≤ p ∧ p ≤ N)) : f p = none := by
  cases hf : f p with
  | none => rfl
  | some c => exact absurd (hi.keys p c hf) hr
theorem rget_c (hi : Rg f N) (h : Hs σ X (RT r g N f R)) (hN : N ≤ 1024) (hk : ∀ σ', Hs σ' X (RT r g N f R) → k (.agg (prC (f.get p)).toArray) σ') : kCall Try.prog 17 [pp r, .int .i64 p] σ k := by
  refine f17 ?_
  have h1 := (h.new (cs := [.int .i64 0, .int .i64 0, .int .i64 0]))
  have e1 := (h1.front 1 rfl).obj
  have e2 := (h1.front 2 rfl).obj
  (try simp (maxSteps := 1000000) (dsimp := false) (disch := (first | omega | (simp only [okR]; done) | (simp only [sizeR] <;> omega) | fail)) only [↓preR, postR, ↓w_stop, Nat.reduceEqDiff, Nat.reduceAdd, Nat.reduceSub, Nat.reduceMul, Int.reduceNeg, Nat.reduceLT, Int.reduceToNat, Nat.reduceLeDiff, Nat.sub_zero, F17])
  refine join_now ?_
  (try simp (maxSteps := 1000000) (dsimp := false) (disch := (first | omega | (simp only [okR]; done) | (simp only [sizeR] <;> omega) | fail)) only [↓preR, postR, ↓w_stop, Nat.reduceEqDiff, Nat.reduceAdd, Nat.reduceSub, Nat.reduceMul, Int.reduceNeg, Nat.reduceLT, Int.reduceToNat, Nat.reduceLeDiff, Nat.sub_zero])
  refine grd_or (b := decide ((N : Int) + 1 ≤ p)) (fun _ k' hk' => ?_) ?_
  · (try simp (maxSteps := 1000000) (dsimp := false) (disch := (first | omega | (simp only [okR]; done) | (simp only [sizeR] <;> omega) | fail)) only [↓preR, postR, ↓w_stop, Nat.reduceEqDiff, Nat.reduceAdd, Nat.reduceSub, Nat.reduceMul, Int.reduceNeg, Nat.reduceLT, Int.reduceToNat, Nat.reduceLeDiff, Nat.sub_zero, e1])
    exact hk'
  by_cases hr : 1 ≤ p ∧ p ≤ N
  · obtain ⟨i, rfl⟩ : ∃ i : Nat, p = (i : Int) := ⟨p.toNat, by omega⟩
    have hb : (decide ((i : Int) < 1) || decide ((N : Int) + 1 ≤ i)) = false := by simp; omega
    rw [hb]
    have c0 := row0 (f := f) (N := N) (i := i) (by omega)
    have c1 := row1 (f := f) (N := N) (i := i) (by omega)
    have c2 := row2 (f := f) (N := N) (i := i) (by omega)
    (try simp (maxSteps := 1000000) (dsimp := false) (disch := (first | omega | (simp only [okR]; done) | (simp only [sizeR] <;> omega) | fail)) only [↓preR, postR, ↓w_stop, Nat.reduceEqDiff, Nat.reduceAdd, Nat.reduceSub, Nat.reduceMul, Int.reduceNeg, Nat.reduceLT, Int.reduceToNat, Nat.reduceLeDiff, Nat.sub_zero, e1, e2, c0, c1, c2, h1.obj])
    exact hk _ h1.put.drop
  · have hb : (decide (p < 1) || decide ((N : Int) + 1 ≤ p)) = true := by
      by_cases h0 : p < 1
      · simp [h0]
      · have : (N : Int) + 1 ≤ p := by omega
        simp [this]
    rw [hb]
    rw [get_none (out_none hi hr)] at hk
    (try simp (maxSteps := 1000000) (dsimp := false) (disch := (first | omega | (simp only [okR]; done) | (simp only [sizeR] <;> omega) | fail)) only [↓preR, postR, ↓w_stop, Nat.reduceEqDiff, Nat.reduceAdd, Nat.reduceSub, Nat.reduceMul, Int.reduceNeg, Nat.reduceLT, Int.reduceToNat, Nat.reduceLeDiff, Nat.sub_zero, h1.obj])
    exact hk _ h1.put.drop
theorem liv_st (hi : Rg f N) : f.liv p = (decide ((f.get p).st = 1) || decide ((f.get p).st = 2)) := by
  cases hf : f p with
  | none => rw [get_none hf]; unfold PV.liv; rw [hf]; rfl
  | some c =>
    rw [get_some hf, PV.liv_some hf]
    rcases hi.st p c hf with h | h | h <;> rw [h] <;> rfl
theorem rlives_c (hi : Rg f N) (h : Hs σ X (RT r g N f R)) (hN : N ≤ 1024) (hk : k (.bool (f.liv p)) σ) : kCall Try.prog 35 [pp r, .int .i64 p] σ k := by
  refine f35 ?_
  have e1 := h.obj
  have e2 := (h.front 1 rfl).obj
  by_cases hr : 1 ≤ p ∧ p ≤ N
  rotate_left
  · have hl : f.liv p = false := by unfold PV.liv; rw [out_none hi hr]
    rw [hl] at hk
    by_cases h1 : 1 ≤ p
    · have h2 : ¬ p < (N : Int) + 1 := by omega
      (try simp (maxSteps := 1000000) (dsimp := false) (disch := (first | omega | (simp only [okR]; done) | (simp only [sizeR] <;> omega) | fail)) only [↓preR, postR, ↓w_stop, Nat.reduceEqDiff, Nat.reduceAdd, Nat.reduceSub, Nat.reduceMul, Int.reduceNeg, Nat.reduceLT, Int.reduceToNat, Nat.reduceLeDiff, Nat.sub_zero, F35, e1, h1])
      exact hk
    · (try simp (maxSteps := 1000000) (dsimp := false) (disch := (first | omega | (simp only [okR]; done) | (simp only [sizeR] <;> omega) | fail)) only [↓preR, postR, ↓w_stop, Nat.reduceEqDiff, Nat.reduceAdd, Nat.reduceSub, Nat.reduceMul, Int.reduceNeg, Nat.reduceLT, Int.reduceToNat, Nat.reduceLeDiff, Nat.sub_zero, F35, e1, h1])
      exact hk
  obtain ⟨i, rfl⟩ : ∃ i : Nat, p = (i : Int) := ⟨p.toNat, by omega⟩
  have c0 := row0 (f := f) (N := N) (i := i) (by omega)
  rw [liv_st hi] at hk
  by_cases h1 : (f.get (i : Int)).st = 1
  · rw [h1] at hk c0
    (try simp (maxSteps := 1000000) (dsimp := false) (disch := (first | omega | (simp only [okR]; done) | (simp only [sizeR] <;> omega) | fail)) only [↓preR, postR, ↓w_stop, Nat.reduceEqDiff, Nat.reduceAdd, Nat.reduceSub, Nat.reduceMul, Int.reduceNeg, Nat.reduceLT, Int.reduceToNat, Nat.reduceLeDiff, Nat.sub_zero, F35, e1, e2, c0])
    exact hk
  · by_cases h2 : (f.get (i : Int)).st = 2
    · rw [h2] at hk c0
      (try simp (maxSteps := 1000000) (dsimp := false) (disch := (first | omega | (simp only [okR]; done) | (simp only [sizeR] <;> omega) | fail)) only [↓preR, postR, ↓w_stop, Nat.reduceEqDiff, Nat.reduceAdd, Nat.reduceSub, Nat.reduceMul, Int.reduceNeg, Nat.reduceLT, Int.reduceToNat, Nat.reduceLeDiff, Nat.sub_zero, F35, e1, e2, c0])
      exact hk
    · have e3 : (decide ((f.get (i : Int)).st = 1) || decide ((f.get (i : Int)).st = 2)) = false := by simp [h1, h2]
      rw [e3] at hk
      (try simp (maxSteps := 1000000) (dsimp := false) (disch := (first | omega | (simp only [okR]; done) | (simp only [sizeR] <;> omega) | fail)) only [↓preR, postR, ↓w_stop, Nat.reduceEqDiff, Nat.reduceAdd, Nat.reduceSub, Nat.reduceMul, Int.reduceNeg, Nat.reduceLT, Int.reduceToNat, Nat.reduceLeDiff, Nat.sub_zero, F35, e1, e2, c0, h1, h2])
      exact hk
theorem rturn_at (hi : Rg f N) (h : Hs σ X (RT r g N f R)) {s : Int} {c : Pr} (hf : f p = some c) (hl : f.liv p = true) : ∃ i : Nat, p = (i : Int) ∧ i ≤ N ∧ Hs (σ.put g (.cells ((rowR N f).set (i * 3) (.int .i64 s)))) X (RT r g N (f.turn p s) R) := by
  have hk := hi.keys p c hf
  obtain ⟨i, rfl⟩ : ∃ i : Nat, p = (i : Int) := ⟨p.toNat, by omega⟩
  refine ⟨i, rfl, by omega, ?_⟩
  have e : f.turn (i : Int) s = f.put (i : Int) (some ⟨s, c.par, c.sta⟩) := by unfold PV.turn; rw [hl, if_pos rfl, hf]; rfl
  rw [e]
  show Hs _ X (_ :: Cel g (rowR N (f.put (i : Int) (some ⟨s, c.par, c.sta⟩))) :: R)
  rw [← set0 (N := N) (f := f) (i := i) (s := s) (by omega) (get_some hf)]
  exact h.putAt 1 rfl
theorem rturn_c {s : Int} (hi : Rg f N) (h : Hs σ X (RT r g N f R)) (hN : N ≤ 1024) (hk : ∀ σ', Hs σ' X (RT r g N (f.turn p s) R) → k (.int .i64 (if f.liv p = true then 0 else 23)) σ') : kCall Try.prog 27 [pp r, .int .i64 p, .int .i64 s] σ k := by
  refine f27 ?_
  have e1 := h.obj
  have e2 := (h.front 1 rfl).obj
  (try simp (maxSteps := 1000000) (dsimp := false) (disch := (first | omega | (simp only [okR]; done) | (simp only [sizeR] <;> omega) | fail)) only [↓preR, postR, ↓w_stop, Nat.reduceEqDiff, Nat.reduceAdd, Nat.reduceSub, Nat.reduceMul, Int.reduceNeg, Nat.reduceLT, Int.reduceToNat, Nat.reduceLeDiff, Nat.sub_zero, F27])
  refine join_now ?_
  refine rlives_c hi h hN ?_
  cases hl : f.liv p with
  | false =>
    rw [hl, if_neg (by decide)] at hk
    have e : f.turn p s = f := by unfold PV.turn; rw [hl]; rfl
    rw [e] at hk
    (try simp (maxSteps := 1000000) (dsimp := false) (disch := (first | omega | (simp only [okR]; done) | (simp only [sizeR] <;> omega) | fail)) only [↓preR, postR, ↓w_stop, Nat.reduceEqDiff, Nat.reduceAdd, Nat.reduceSub, Nat.reduceMul, Int.reduceNeg, Nat.reduceLT, Int.reduceToNat, Nat.reduceLeDiff, Nat.sub_zero])
    exact hk _ h
  | true =>
    rw [hl, if_pos rfl] at hk
    obtain ⟨c, hf, _⟩ := PV.liv_iff.1 hl
    obtain ⟨i, rfl, hiN, h2⟩ := rturn_at (s := s) hi h hf hl
    have hlen := rowR_len N f
    (try simp (maxSteps := 1000000) (dsimp := false) (disch := (first | omega | (simp only [okR]; done) | (simp only [sizeR] <;> omega) | fail)) only [↓preR, postR, ↓w_stop, Nat.reduceEqDiff, Nat.reduceAdd, Nat.reduceSub, Nat.reduceMul, Int.reduceNeg, Nat.reduceLT, Int.reduceToNat, Nat.reduceLeDiff, Nat.sub_zero, e1, e2, hlen])
    exact hk _ h2
theorem rtold_c (hi : Rg f N) (h : Hs σ X (RT r g N f R)) (hN : N ≤ 1024) (hk : ∀ σ', Hs σ' X (RT r g N (f.turn p 1) R) → k undef σ') : kCall Try.prog 36 [pp r, .int .i64 p] σ k := by
  refine f36 ?_
  have e1 := h.obj
  have e2 := (h.front 1 rfl).obj
  (try simp (maxSteps := 1000000) (dsimp := false) (disch := (first | omega | (simp only [okR]; done) | (simp only [sizeR] <;> omega) | fail)) only [↓preR, postR, ↓w_stop, Nat.reduceEqDiff, Nat.reduceAdd, Nat.reduceSub, Nat.reduceMul, Int.reduceNeg, Nat.reduceLT, Int.reduceToNat, Nat.reduceLeDiff, Nat.sub_zero, F36])
  refine rlives_c hi h hN ?_
  cases hl : f.liv p with
  | false =>
    have e : f.turn p 1 = f := by unfold PV.turn; rw [hl]; rfl
    rw [e] at hk
    (try simp (maxSteps := 1000000) (dsimp := false) (disch := (first | omega | (simp only [okR]; done) | (simp only [sizeR] <;> omega) | fail)) only [↓preR, postR, ↓w_stop, Nat.reduceEqDiff, Nat.reduceAdd, Nat.reduceSub, Nat.reduceMul, Int.reduceNeg, Nat.reduceLT, Int.reduceToNat, Nat.reduceLeDiff, Nat.sub_zero])
    exact hk _ h
  | true =>
    obtain ⟨c, hf, _⟩ := PV.liv_iff.1 hl
    obtain ⟨i, rfl, hiN, h2⟩ := rturn_at (s := 1) hi h hf hl
    have hlen := rowR_len N f
    (try simp (maxSteps := 1000000) (dsimp := false) (disch := (first | omega | (simp only [okR]; done) | (simp only [sizeR] <;> omega) | fail)) only [↓preR, postR, ↓w_stop, Nat.reduceEqDiff, Nat.reduceAdd, Nat.reduceSub, Nat.reduceMul, Int.reduceNeg, Nat.reduceLT, Int.reduceToNat, Nat.reduceLeDiff, Nat.sub_zero, e1, e2, hlen])
    exact hk _ h2
end
end Go.Proofs.Ytkponloccimdlaa
