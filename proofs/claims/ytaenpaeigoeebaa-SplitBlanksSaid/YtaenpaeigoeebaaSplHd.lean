/- Texts with one hard byte behind each. Conditions: as each theorem says. -/
import Derived.Test.YtaenpaeigoeebaaSplWh
namespace Go.Proofs.Ytaenpaeigoeebaa
open E Go.Lib
set_option linter.unusedVariables false
set_option linter.unusedSimpArgs false
set_option maxHeartbeats 1000000
set_option maxRecDepth 20000

def hard (l : List (List UInt8)) : List UInt8 := l.flatMap fun t => t ++ [58]
theorem hard_one (t : List UInt8) (out : List Fd) (h : (58 : UInt8) ∉ t) : (t ++ [58]).foldl (SS.sign [58]) ⟨out, none, false⟩ = ⟨out ++ [(t, List.replicate t.length false)], none, false⟩ := by
  rw [List.foldl_append, signs_not [58] t _ (fun c hc => by simp; rintro rfl; exact h hc) rfl, List.foldl_cons, List.foldl_nil]
  by_cases ht : t = []
  · subst ht; rfl
  · rw [if_neg ht, SS.sign_hard (by simp) (by decide) rfl]
    simp [SS.add, SS.there, SS.ends, SS.cur]
theorem hard_fold : ∀ (l : List (List UInt8)) (out : List Fd), (∀ t ∈ l, (58 : UInt8) ∉ t) → (hard l).foldl (SS.sign [58]) ⟨out, none, false⟩ = ⟨out ++ l.map fun t => (t, List.replicate t.length false), none, false⟩
  | [], out, _ => by simp [hard]
  | t :: l, out, h => by
    have e : hard (t :: l) = (t ++ [58]) ++ hard l := by simp [hard]
    rw [e, List.foldl_append, hard_one t out (h t (by simp)), hard_fold l _ (fun u hu => h u (by simp [hu]))]
    simp
theorem hard_pure (l : List (List UInt8)) (h : ∀ t ∈ l, (58 : UInt8) ∉ t) : fieldsM [(hard l, false, true, false)] [58] = l.map fun t => (t, List.replicate t.length false) := by
  have := hard_fold l [] h
  unfold fieldsM fieldsS
  simp only [List.foldl_cons, List.foldl_nil, SS.piece, Bool.false_eq_true, if_false, if_true]
  rw [show SS.zero = ⟨[], none, false⟩ from rfl, this]
  simp [SS.fin]
theorem hard_len : ∀ (l : List (List UInt8)), (∀ t ∈ l, t.length ≤ 20) → (hard l).length ≤ l.length * 21
  | [], _ => by simp [hard]
  | t :: l, h => by
    have e : hard (t :: l) = (t ++ [58]) ++ hard l := by simp [hard]
    have := h t (by simp)
    have := hard_len l (fun u hu => h u (by simp [hu]))
    rw [e]; simp; omega
theorem hard_app (a : List (List UInt8)) (t : List UInt8) : hard (a ++ [t]) = hard a ++ t ++ [58] := by simp [hard]
section
variable {σ : AS}
/-- A list of texts, cell by cell. -/
theorem strs_at {v : Value} {l : List (List UInt8)} (h : RepL σ.ld v l) : ∃ a cap, v = .slice a l.length cap ∧ l.length ≤ cap ∧ (l = [] ∨ ∃ b o, a = some ⟨b, o, none⟩ ∧ ∀ i (hi : i < l.length), l[i].length ≤ maxLen ∧ ldc σ b (o + i) = some (.string (bs l[i]))) := by
  simp only [ldc, ← ld_ob]
  obtain ⟨b, o, cap, hv, h1, h2, hat⟩ := h.at
  rcases hv with rfl | ⟨rfl, a, rfl⟩
  · refine ⟨_, cap, rfl, h1, .inr ⟨b, o, rfl, fun i hi => ?_⟩⟩
    obtain ⟨cs, hcs, _, hlds, hc⟩ := hat i hi
    obtain ⟨rfl, ht⟩ := hcs
    have := hc 0 _ rfl
    rw [show o + i * Rp.sz Str + 0 = o + i from by simp [Rp.sz]] at this
    exact ⟨ht, this⟩
  · exact ⟨a, cap, rfl, h1, .inl rfl⟩
theorem hard_walk {v0 : Value} {l : List (List UInt8)} (h0 : RepL σ.ld v0 l) : kCall Try.prog 5 [v0] σ fun v _ => v = .bool true := by
  obtain ⟨va, vc, rfl, _, hat⟩ := strs_at h0
  refine f5 ?_
  by_cases hl : 10 < l.length
  · have hl' : (10 : Int) < l.length := by omega
    (try simp (maxSteps := 1000000) (dsimp := false) (disch := (first | omega | (simp only [okR]; done) | (simp only [sizeR] <;> omega) | fail)) only [↓preR, postR, ↓w_join, Nat.reduceEqDiff, Nat.reduceAdd, Nat.reduceSub, Nat.reduceMul, Int.reduceNeg, Nat.reduceLT, Int.reduceToNat, Nat.reduceLeDiff, Nat.sub_zero, F5])
    refine awake_ok fun σ' _ => ?_
    (try simp (maxSteps := 1000000) (dsimp := false) (disch := (first | omega | (simp only [okR]; done) | (simp only [sizeR] <;> omega) | fail)) only [↓preR, postR, ↓w_join, Nat.reduceEqDiff, Nat.reduceAdd, Nat.reduceSub, Nat.reduceMul, Int.reduceNeg, Nat.reduceLT, Int.reduceToNat, Nat.reduceLeDiff, Nat.sub_zero])
  have hl' : ¬ (10 : Int) < l.length := by omega
  (try simp (maxSteps := 1000000) (dsimp := false) (disch := (first | omega | (simp only [okR]; done) | (simp only [sizeR] <;> omega) | fail)) only [↓preR, postR, ↓w_join, Nat.reduceEqDiff, Nat.reduceAdd, Nat.reduceSub, Nat.reduceMul, Int.reduceNeg, Nat.reduceLT, Int.reduceToNat, Nat.reduceLeDiff, Nat.sub_zero, F5])
  refine loop_by (α := Nat) (fun i => [.string (bs (hard (l.take i))), .int .i64 i]) (fun _ => σ) (fun i => i ≤ l.length ∧ ∀ t ∈ l.take i, t.length ≤ 20 ∧ (58 : UInt8) ∉ t) (fun i => l.length - i) 0 ⟨by omega, by simp⟩ rfl rfl ?_
  intro i ⟨hi, hok⟩ again hag
  dsimp only at hi hok hag ⊢
  by_cases hlt : i < l.length
  · rcases hat with rfl | ⟨b, o, rfl, hat⟩
    · simp at hlt
    obtain ⟨ht, y0⟩ := hat i hlt
    have hh := hard_len (l.take i) (fun t ht => (hok t ht).1)
    have hti : (l.take i).length = i := by rw [List.length_take]; omega
    have nxt : l[i].length ≤ 20 → (58 : UInt8) ∉ l[i] → again [.string (bs (hard (l.take i) ++ l[i] ++ [58])), .int .i64 ((i : Int) + 1)] σ := by
      intro h1 h2
      have := hag (i + 1) ⟨by omega, by
        rw [List.take_succ_eq_append_getElem hlt]
        intro p hp
        simp only [List.mem_append, List.mem_singleton] at hp
        rcases hp with hp | rfl
        · exact hok p hp
        · exact ⟨h1, h2⟩⟩ (by omega)
      rw [List.take_succ_eq_append_getElem hlt, hard_app] at this
      simpa using this
    generalize l[i] = t at ht y0 nxt
    generalize hard (l.take i) = sofar at nxt hh
    rw [ldc] at y0
    by_cases h20 : 20 < t.length
    · have h20' : (20 : Int) < t.length := by omega
      (try simp (maxSteps := 1000000) (dsimp := false) (disch := (first | omega | (simp only [okR]; done) | (simp only [sizeR] <;> omega) | fail)) only [↓preR, postR, ↓w_join, Nat.reduceEqDiff, Nat.reduceAdd, Nat.reduceSub, Nat.reduceMul, Int.reduceNeg, Nat.reduceLT, Int.reduceToNat, Nat.reduceLeDiff, Nat.sub_zero, y0])
      refine awake_ok fun σ' _ => ?_
      (try simp (maxSteps := 1000000) (dsimp := false) (disch := (first | omega | (simp only [okR]; done) | (simp only [sizeR] <;> omega) | fail)) only [↓preR, postR, ↓w_join, Nat.reduceEqDiff, Nat.reduceAdd, Nat.reduceSub, Nat.reduceMul, Int.reduceNeg, Nat.reduceLT, Int.reduceToNat, Nat.reduceLeDiff, Nat.sub_zero])
    have h20' : ¬ (20 : Int) < t.length := by omega
    (simp (maxSteps := 1000000) (dsimp := false) (disch := (first | omega | (simp only [okR]; done) | (simp only [sizeR] <;> omega) | fail)) only [↓preR, postR, ↓w_join, Nat.reduceEqDiff, Nat.reduceAdd, Nat.reduceSub, Nat.reduceMul, Int.reduceNeg, Nat.reduceLT, Int.reduceToNat, Nat.reduceLeDiff, Nat.sub_zero, y0])
    refine within_c (c := 58) (by omega) ?_
    by_cases hin : (58 : UInt8) ∈ t
    · rw [decide_eq_true hin]
      (try simp (maxSteps := 1000000) (dsimp := false) (disch := (first | omega | (simp only [okR]; done) | (simp only [sizeR] <;> omega) | fail)) only [↓preR, postR, ↓w_join, Nat.reduceEqDiff, Nat.reduceAdd, Nat.reduceSub, Nat.reduceMul, Int.reduceNeg, Nat.reduceLT, Int.reduceToNat, Nat.reduceLeDiff, Nat.sub_zero])
      refine awake_ok fun σ' _ => ?_
      (try simp (maxSteps := 1000000) (dsimp := false) (disch := (first | omega | (simp only [okR]; done) | (simp only [sizeR] <;> omega) | fail)) only [↓preR, postR, ↓w_join, Nat.reduceEqDiff, Nat.reduceAdd, Nat.reduceSub, Nat.reduceMul, Int.reduceNeg, Nat.reduceLT, Int.reduceToNat, Nat.reduceLeDiff, Nat.sub_zero])
    · rw [decide_eq_false hin]
      (try simp (maxSteps := 1000000) (dsimp := false) (disch := (first | omega | (simp only [okR]; done) | (simp only [sizeR] <;> omega) | fail)) only [↓preR, postR, ↓w_join, Nat.reduceEqDiff, Nat.reduceAdd, Nat.reduceSub, Nat.reduceMul, Int.reduceNeg, Nat.reduceLT, Int.reduceToNat, Nat.reduceLeDiff, Nat.sub_zero, y0])
      exact nxt (by omega) hin
  · obtain rfl : i = l.length := by omega
    rw [List.take_length] at hok ⊢
    have hp := hard_pure l (fun t ht => (hok t ht).2)
    have hh := hard_len l (fun t ht => (hok t ht).1)
    (simp (maxSteps := 1000000) (dsimp := false) (disch := (first | omega | (simp only [okR]; done) | (simp only [sizeR] <;> omega) | fail)) only [↓preR, postR, ↓w_join, Nat.reduceEqDiff, Nat.reduceAdd, Nat.reduceSub, Nat.reduceMul, Int.reduceNeg, Nat.reduceLT, Int.reduceToNat, Nat.reduceLeDiff, Nat.sub_zero])
    refine fields_e (l := [(hard l, false, true, false)]) (lit_rep new_eq_ (RpL.one (pc_lit _ _ _ _ (by omega))) rfl (small _ (by decide))) (by simp [many]; omega) ?_
    rw [hp]
    intro σ1 v1 r1 c1
    have k1 : Chg [] σ σ1 := ((Chg.refl _ _).new _).step c1 (by simp)
    obtain ⟨a1, cp1, rfl, _, x1⟩ := flds_at r1
    have hm : (l.map fun t => (t, List.replicate t.length false)).length = l.length := by simp
    (simp (maxSteps := 1000000) (dsimp := false) (disch := (first | omega | (simp only [okR]; done) | (simp only [sizeR] <;> omega) | fail)) only [↓preR, postR, ↓w_join, Nat.reduceEqDiff, Nat.reduceAdd, Nat.reduceSub, Nat.reduceMul, Int.reduceNeg, Nat.reduceLT, Int.reduceToNat, Nat.reduceLeDiff, Nat.sub_zero, hm])
    refine loop_by (α := Nat) (fun i => [.int .i64 i]) (fun _ => σ1) (fun i => i ≤ l.length) (fun i => l.length - i) 0 (by omega) rfl rfl ?_
    intro i hi again hag
    dsimp only at hi hag ⊢
    by_cases hlt : i < l.length
    · obtain ⟨_, _, e0, _, x0⟩ := strs_at (RepL.mono k1.le h0)
      injection e0 with e0 _ _
      subst e0
      rcases x0 with rfl | ⟨b0, o0, rfl, x0⟩
      · simp at hlt
      rcases x1 with h | ⟨b1, o1, rfl, x1⟩
      · rw [List.map_eq_nil_iff] at h; rw [h] at hlt; simp at hlt
      obtain ⟨_, y0⟩ := x0 i hlt
      obtain ⟨w, _, _, _, y1, _⟩ := x1 i (by rw [hm]; exact hlt)
      rw [List.getElem_map] at y1
      rw [ldc] at y0 y1
      (try simp (maxSteps := 1000000) (dsimp := false) (disch := (first | omega | (simp only [okR]; done) | (simp only [sizeR] <;> omega) | fail)) only [↓preR, postR, ↓w_join, Nat.reduceEqDiff, Nat.reduceAdd, Nat.reduceSub, Nat.reduceMul, Int.reduceNeg, Nat.reduceLT, Int.reduceToNat, Nat.reduceLeDiff, Nat.sub_zero, y0, y1, hm])
      exact hag (i + 1) (by omega) (by omega)
    · obtain rfl : i = l.length := by omega
      (simp (maxSteps := 1000000) (dsimp := false) (disch := (first | omega | (simp only [okR]; done) | (simp only [sizeR] <;> omega) | fail)) only [↓preR, postR, ↓w_join, Nat.reduceEqDiff, Nat.reduceAdd, Nat.reduceSub, Nat.reduceMul, Int.reduceNeg, Nat.reduceLT, Int.reduceToNat, Nat.reduceLeDiff, Nat.sub_zero])
      refine awake_ok fun σ' _ => ?_
      (try simp (maxSteps := 1000000) (dsimp := false) (disch := (first | omega | (simp only [okR]; done) | (simp only [sizeR] <;> omega) | fail)) only [↓preR, postR, ↓w_join, Nat.reduceEqDiff, Nat.reduceAdd, Nat.reduceSub, Nat.reduceMul, Int.reduceNeg, Nat.reduceLT, Int.reduceToNat, Nat.reduceLeDiff, Nat.sub_zero])
theorem strs_arg {c : Ce} {v : Value} (A : OV c (shOf Try.prog 8 38) v) : ∃ l : List (List UInt8), RepL c v l := by
  rw [show shOf Try.prog 8 38 = .slice .str 1 from by kernel_rfl] at A
  exact arg_list (α := Str) A
theorem hard_law {v0 : Value} (A0 : OV σ.c (shOf Try.prog 8 38) v0) : kCall Try.prog 5 [v0] σ fun v _ => v = .bool true := by
  obtain ⟨l, hl⟩ := strs_arg A0
  exact hard_walk (hl.mono c_le_ld)
end
end Go.Proofs.Ytaenpaeigoeebaa
