/- Patterns: the laws without the reference. Conditions: as each theorem says. -/
import Derived.Test.YtgkhdiahncemcaaGlL
namespace Go.Proofs.Ytgkhdiahncemcaa
open E Go.Lib
set_option linter.unusedVariables false
set_option linter.unusedSimpArgs false
set_option maxHeartbeats 1000000
set_option maxRecDepth 20000

/-! ### Quoted texts -/
theorem isP_quoted {s : Str} {q : List Bool} {i : Nat} {c : UInt8} (h : q[i]?.getD false = true) : isP s q i c = false := isP_f2 h
theorem toks_quoted (s : Str) : toks s (List.replicate s.length true) = s.map fun c => (1, c, false, []) := by
  have key : ∀ n i, i + n = s.length → toksA s (List.replicate s.length true) i = (s.drop i).map fun c => ((1, c, false, []) : Tok) := by
    intro n
    induction n with
    | zero =>
      intro i hi
      rw [toksA_eq, if_neg (by omega), List.drop_eq_nil_of_le (by omega)]; rfl
    | succ n ih =>
      intro i hi
      have hlt : i < s.length := by omega
      have hq : ∀ c, isP s (List.replicate s.length true) i c = false := fun c => isP_f2 (by rw [List.getElem?_replicate, if_pos hlt]; rfl)
      have e : tokAt s (List.replicate s.length true) i = ((1, byt s i, false, []), i + 1) := by
        unfold tokAt
        rw [hq, hq, hq]
        simp
      rw [toksA_eq, if_pos hlt, e, ih (i + 1) (by omega), List.drop_eq_getElem_cons hlt, List.map_cons]
      unfold byt
      rw [List.getElem?_eq_getElem hlt]
      rfl
  have := key s.length 0 (by omega)
  rw [List.drop_zero] at this
  exact this
theorem fit_quoted : ∀ (s t : Str), Fit (s.map fun c => ((1, c, false, []) : Tok)) t ↔ s = t
  | [], t => by
    show t = [] ↔ [] = t
    exact ⟨fun h => h.symm, fun h => h.symm⟩
  | c :: s, t => by
    have h3 : ¬ ((1 : Int) = 3) := by omega
    simp only [List.map_cons, Fit, h3, if_false]
    constructor
    · rintro ⟨c', r, rfl, h1, h2⟩
      have h1' : c = c' := by simpa [fit1] using h1
      rw [(fit_quoted s r).1 h2, h1']
    · rintro rfl
      exact ⟨c, s, rfl, by simp [fit1], (fit_quoted s s).2 rfl⟩
theorem match_quoted (s t : Str) : matchL (s.map fun c => ((1, c, false, []) : Tok)) t = decide (s = t) := by
  rw [matchL_eq, Bool.eq_iff_iff, fitB_iff, fit_quoted, decide_eq_true_eq]
theorem spec_quoted (s : Str) : specL (s.map fun c => ((1, c, false, []) : Tok)) = false := by
  unfold specL
  rw [List.any_eq_false]
  intro t ht
  obtain ⟨c, _, rfl⟩ := List.mem_map.1 ht
  simp

/-! ### Tokens joined -/
theorem match_join (a b : List Tok) (s : Str) : matchL (a ++ b) s = (List.range (s.length + 1)).any fun i => matchL a (s.take i) && matchL b (s.drop i) := by
  rw [Bool.eq_iff_iff, matchL_eq, fitB_iff, fit_app, List.any_eq_true]
  constructor
  · rintro ⟨i, hi, h1, h2⟩
    exact ⟨i, List.mem_range.2 (by omega), by rw [matchL_eq, matchL_eq, fitB_iff.2 h1, fitB_iff.2 h2]; rfl⟩
  · rintro ⟨i, hi, h⟩
    rw [matchL_eq, matchL_eq, Bool.and_eq_true] at h
    exact ⟨i, by have := List.mem_range.1 hi; omega, fitB_iff.1 h.1, fitB_iff.1 h.2⟩

/-! ### The shortest and the longest -/
theorem pick_spec (p : Nat → Bool) : ∀ N : Nat, (pick p false N = -1 ∧ pick p true N = -1 ∧ ∀ i, i < N → p i = false) ∨ ∃ i j : Nat, pick p false N = i ∧ pick p true N = j ∧ i ≤ j ∧ j < N ∧ p i = true ∧ p j = true ∧ ∀ m, m < N → p m = true → m ≤ j
  | 0 => .inl ⟨rfl, rfl, fun i h => by omega⟩
  | N + 1 => by
    have e1 : pick p false (N + 1) = if p N && (decide (pick p false N < 0) || false) then (N : Int) else pick p false N := rfl
    have e2 : pick p true (N + 1) = if p N && (decide (pick p true N < 0) || true) then (N : Int) else pick p true N := rfl
    rw [Bool.or_true, Bool.and_true] at e2
    rw [Bool.or_false] at e1
    rcases pick_spec p N with ⟨h1, h2, h3⟩ | ⟨i, j, h1, h2, h3, h4, h5, h6, h7⟩
    · rw [h1] at e1
      rw [h2] at e2
      cases hp : p N with
      | false =>
        rw [hp] at e1 e2
        refine .inl ⟨e1, e2, fun i hi => ?_⟩
        by_cases h : i = N
        · subst h; exact hp
        · exact h3 i (by omega)
      | true =>
        rw [hp] at e1 e2
        refine .inr ⟨N, N, e1, e2, Nat.le_refl _, by omega, hp, hp, fun m hm _ => by omega⟩
    · have hn : ¬ pick p false N < 0 := by omega
      rw [decide_eq_false hn, Bool.and_false] at e1
      cases hp : p N with
      | false =>
        rw [hp] at e2
        refine .inr ⟨i, j, e1.trans h1, e2.trans h2, h3, by omega, h5, h6, fun m hm hpm => ?_⟩
        by_cases h : m = N
        · subst h; rw [hp] at hpm; cases hpm
        · exact h7 m (by omega) hpm
      | true =>
        rw [hp] at e2
        exact .inr ⟨i, N, e1.trans h1, e2, by omega, by omega, h5, hp, fun m hm _ => by omega⟩
section
variable {σ σ' : AS} {X : Ce} {R : List Ck} {l a b : List Tok} {u v va vb : Value} {s t : Str} {q : List Bool} {longest : Bool}
theorem mks_row' {n : Nat} (hn : n ≤ 1000000) (s : AS) (K : Value → AS → Prop) : kMks s 1 1 [.bool false] (.int .i64 (n : Int)) (.int .i64 (n : Int)) K = K (rowS s.n n) (s.new (.cells (rowV (List.replicate n false)))) := by
  rw [w_mks 1 1 _ _ _ _ _ (by omega) (by omega) (by omega) (by omega) rfl (by omega), tn_cast, rep1]
theorem rowV_rp (l : List Bool) : RpL X l (rowV l) := by
  induction l with
  | nil => rfl
  | cons b l ih => exact ⟨[.bool b], rowV l, rfl, rfl, ih⟩
theorem self_walk (h : Hs σ X R) : kCall Try.prog 6 [.string (bs s), .string (bs t)] σ fun v _ => v = .bool true := by
  refine f6 ?_
  by_cases hs : s.length ≤ 200
  · by_cases ht : t.length ≤ 200
    · have h1 := h.new (cs := rowV (List.replicate s.length false))
      have hsm : s.length ≤ 1000000 := by omega
      (try simp (maxSteps := 1000000) (dsimp := false) (disch := (first | omega | (simp only [okR]; done) | (simp only [sizeR] <;> omega) | fail)) only [↓preR, postR, ↓w_stop, Nat.reduceEqDiff, Nat.reduceAdd, Nat.reduceSub, Nat.reduceMul, Int.reduceNeg, Nat.reduceLT, Int.reduceToNat, Nat.reduceLeDiff, Nat.sub_zero, F6])
      refine join_now ?_
      (try simp (maxSteps := 1000000) (dsimp := false) (disch := (first | omega | (simp only [okR]; done) | (simp only [sizeR] <;> omega) | fail)) only [↓preR, postR, ↓w_stop, Nat.reduceEqDiff, Nat.reduceAdd, Nat.reduceSub, Nat.reduceMul, Int.reduceNeg, Nat.reduceLT, Int.reduceToNat, Nat.reduceLeDiff, Nat.sub_zero, ↓mks_row' hsm])
      generalize AS.new σ _ = s1 at h1 ⊢
      generalize σ.n = p at h1 ⊢
      refine join_by fun J hJ => ?_
      have tail : ∀ s2, Hs s2 X (Cel p (rowV (List.replicate s.length true)) :: R) → J [] s2 := by
        intro s2 h2
        refine hJ _ _ ?_
        have g2 := h2.lit (l := List.replicate s.length true) (n := s.length) (rowV_rp _) (by simp) (by unfold maxLen; omega)
        obtain ⟨X3, hx3, hq, h3⟩ := g2.keep
        (try simp (maxSteps := 1000000) (dsimp := false) (disch := (first | omega | (simp only [okR]; done) | (simp only [sizeR] <;> omega) | fail)) only [↓preR, postR, ↓w_join, Nat.reduceEqDiff, Nat.reduceAdd, Nat.reduceSub, Nat.reduceMul, Int.reduceNeg, Nat.reduceLT, Int.reduceToNat, Nat.reduceLeDiff, Nat.sub_zero])
        refine parse_c hq (by omega) h3 fun X4 v4 s4 hx4 hv4 h4 => ?_
        rw [toks_quoted] at hv4
        obtain ⟨va, vc, hv, _⟩ := hv4.val
        have hvl : (s.map fun c => ((1, c, false, []) : Tok)).length = s.length := by simp
        rw [hvl] at hv
        subst hv
        (simp (maxSteps := 1000000) (dsimp := false) (disch := (first | omega | (simp only [okR]; done) | (simp only [sizeR] <;> omega) | fail)) only [↓preR, postR, ↓w_join, Nat.reduceEqDiff, Nat.reduceAdd, Nat.reduceSub, Nat.reduceMul, Int.reduceNeg, Nat.reduceLT, Int.reduceToNat, Nat.reduceLeDiff, Nat.sub_zero])
        refine special_c hv4 h4 fun s5 h5 => ?_
        rw [spec_quoted]
        (simp (maxSteps := 1000000) (dsimp := false) (disch := (first | omega | (simp only [okR]; done) | (simp only [sizeR] <;> omega) | fail)) only [↓preR, postR, ↓w_join, Nat.reduceEqDiff, Nat.reduceAdd, Nat.reduceSub, Nat.reduceMul, Int.reduceNeg, Nat.reduceLT, Int.reduceToNat, Nat.reduceLeDiff, Nat.sub_zero])
        refine match_c hv4 (by omega) h5 fun s6 h6 => ?_
        rw [match_quoted, decide_eq_true rfl]
        (simp (maxSteps := 1000000) (dsimp := false) (disch := (first | omega | (simp only [okR]; done) | (simp only [sizeR] <;> omega) | fail)) only [↓preR, postR, ↓w_join, Nat.reduceEqDiff, Nat.reduceAdd, Nat.reduceSub, Nat.reduceMul, Int.reduceNeg, Nat.reduceLT, Int.reduceToNat, Nat.reduceLeDiff, Nat.sub_zero])
        refine match_c hv4 (by omega) h6 fun s7 h7 => ?_
        rw [match_quoted]
        have bb : ∀ b : Bool, (b == b) = true := by decide
        (simp (maxSteps := 1000000) (dsimp := false) (disch := (first | omega | (simp only [okR]; done) | (simp only [sizeR] <;> omega) | fail)) only [↓preR, postR, ↓w_join, Nat.reduceEqDiff, Nat.reduceAdd, Nat.reduceSub, Nat.reduceMul, Int.reduceNeg, Nat.reduceLT, Int.reduceToNat, Nat.reduceLeDiff, Nat.sub_zero, bb])
        refine awake_c h7 fun X8 s8 hx8 h8 => ?_
        (simp (maxSteps := 1000000) (dsimp := false) (disch := (first | omega | (simp only [okR]; done) | (simp only [sizeR] <;> omega) | fail)) only [↓preR, postR, ↓w_join, Nat.reduceEqDiff, Nat.reduceAdd, Nat.reduceSub, Nat.reduceMul, Int.reduceNeg, Nat.reduceLT, Int.reduceToNat, Nat.reduceLeDiff, Nat.sub_zero])
      clear hJ
      refine loop_inv (fun nn xs s2 => ∃ j : Nat, xs = [.int .i64 j] ∧ j ≤ s.length ∧ Hs s2 X (Cel p (rowV (mix (List.replicate s.length true) (List.replicate s.length false) j)) :: R) ∧ nn = s.length - j) _ ⟨0, rfl, Nat.zero_le _, by rw [mix_zero]; exact h1, rfl⟩ ?_
      clear h1
      rintro _ _ s2 again ⟨j, rfl, hj, h2, rfl⟩ hag
      have hll : (List.replicate s.length true).length = (List.replicate s.length false).length := by simp
      have zl : (List.replicate s.length false).length = s.length := by simp
      have hml : (mix (List.replicate s.length true) (List.replicate s.length false) j).length = s.length := by rw [mix_len hll (by rw [zl]; omega), zl]
      by_cases hlt : j < s.length
      · have hst := mix_set (i := j) hll (by rw [zl]; omega)
        rw [List.getElem?_replicate, if_pos hlt] at hst
        have hrs : (rowV (mix (List.replicate s.length true) (List.replicate s.length false) j)).set j (.bool true) = rowV (mix (List.replicate s.length true) (List.replicate s.length false) (j + 1)) := by rw [rowV_set]; congr 1
        (simp (maxSteps := 1000000) (dsimp := false) (disch := (first | omega | (simp only [okR]; done) | (simp only [sizeR] <;> omega) | fail)) only [↓preR, postR, ↓w_join, Nat.reduceEqDiff, Nat.reduceAdd, Nat.reduceSub, Nat.reduceMul, Int.reduceNeg, Nat.reduceLT, Int.reduceToNat, Nat.reduceLeDiff, Nat.sub_zero, h2.obj, rowV_len, hml, hrs])
        exact hag _ _ _ ⟨j + 1, by simp, hlt, h2.put, rfl⟩ (by omega)
      · obtain rfl : j = s.length := by omega
        have e9 := mix_all hll
        rw [zl] at e9
        rw [e9] at h2
        (simp (maxSteps := 1000000) (dsimp := false) (disch := (first | omega | (simp only [okR]; done) | (simp only [sizeR] <;> omega) | fail)) only [↓preR, postR, ↓w_join, Nat.reduceEqDiff, Nat.reduceAdd, Nat.reduceSub, Nat.reduceMul, Int.reduceNeg, Nat.reduceLT, Int.reduceToNat, Nat.reduceLeDiff, Nat.sub_zero])
        exact tail _ h2
    · (simp (maxSteps := 1000000) (dsimp := false) (disch := (first | omega | (simp only [okR]; done) | (simp only [sizeR] <;> omega) | fail)) only [↓preR, postR, ↓w_join, Nat.reduceEqDiff, Nat.reduceAdd, Nat.reduceSub, Nat.reduceMul, Int.reduceNeg, Nat.reduceLT, Int.reduceToNat, Nat.reduceLeDiff, Nat.sub_zero, F6])
      refine awake_c h fun X8 s8 hx8 h8 => ?_
      (try simp (maxSteps := 1000000) (dsimp := false) (disch := (first | omega | (simp only [okR]; done) | (simp only [sizeR] <;> omega) | fail)) only [↓preR, postR, ↓w_join, Nat.reduceEqDiff, Nat.reduceAdd, Nat.reduceSub, Nat.reduceMul, Int.reduceNeg, Nat.reduceLT, Int.reduceToNat, Nat.reduceLeDiff, Nat.sub_zero])
  · (simp (maxSteps := 1000000) (dsimp := false) (disch := (first | omega | (simp only [okR]; done) | (simp only [sizeR] <;> omega) | fail)) only [↓preR, postR, ↓w_join, Nat.reduceEqDiff, Nat.reduceAdd, Nat.reduceSub, Nat.reduceMul, Int.reduceNeg, Nat.reduceLT, Int.reduceToNat, Nat.reduceLeDiff, Nat.sub_zero, F6])
    refine awake_c h fun X8 s8 hx8 h8 => ?_
    (try simp (maxSteps := 1000000) (dsimp := false) (disch := (first | omega | (simp only [okR]; done) | (simp only [sizeR] <;> omega) | fail)) only [↓preR, postR, ↓w_join, Nat.reduceEqDiff, Nat.reduceAdd, Nat.reduceSub, Nat.reduceMul, Int.reduceNeg, Nat.reduceLT, Int.reduceToNat, Nat.reduceLeDiff, Nat.sub_zero])
theorem joins_walk (ha : RepL X va a) (hb : RepL X vb b) (h : Hs σ X R) : kCall Try.prog 7 [va, vb, .string (bs s)] σ fun v _ => v = .bool true := by
  refine f7 ?_
  (try simp (maxSteps := 1000000) (dsimp := false) (disch := (first | omega | (simp only [okR]; done) | (simp only [sizeR] <;> omega) | fail)) only [↓preR, postR, ↓w_stop, Nat.reduceEqDiff, Nat.reduceAdd, Nat.reduceSub, Nat.reduceMul, Int.reduceNeg, Nat.reduceLT, Int.reduceToNat, Nat.reduceLeDiff, Nat.sub_zero, F7])
  refine join_now ?_
  (try simp (maxSteps := 1000000) (dsimp := false) (disch := (first | omega | (simp only [okR]; done) | (simp only [sizeR] <;> omega) | fail)) only [↓preR, postR, ↓w_stop, Nat.reduceEqDiff, Nat.reduceAdd, Nat.reduceSub, Nat.reduceMul, Int.reduceNeg, Nat.reduceLT, Int.reduceToNat, Nat.reduceLeDiff, Nat.sub_zero])
  refine few_c ha h ?_
  cases hf : fewL a with
  | false =>
    (simp (maxSteps := 1000000) (dsimp := false) (disch := (first | omega | (simp only [okR]; done) | (simp only [sizeR] <;> omega) | fail)) only [↓preR, postR, ↓w_join, Nat.reduceEqDiff, Nat.reduceAdd, Nat.reduceSub, Nat.reduceMul, Int.reduceNeg, Nat.reduceLT, Int.reduceToNat, Nat.reduceLeDiff, Nat.sub_zero])
    refine awake_c h fun X4 s4 hx4 h4 => ?_
    (try simp (maxSteps := 1000000) (dsimp := false) (disch := (first | omega | (simp only [okR]; done) | (simp only [sizeR] <;> omega) | fail)) only [↓preR, postR, ↓w_join, Nat.reduceEqDiff, Nat.reduceAdd, Nat.reduceSub, Nat.reduceMul, Int.reduceNeg, Nat.reduceLT, Int.reduceToNat, Nat.reduceLeDiff, Nat.sub_zero])
  | true =>
  (simp (maxSteps := 1000000) (dsimp := false) (disch := (first | omega | (simp only [okR]; done) | (simp only [sizeR] <;> omega) | fail)) only [↓preR, postR, ↓w_join, Nat.reduceEqDiff, Nat.reduceAdd, Nat.reduceSub, Nat.reduceMul, Int.reduceNeg, Nat.reduceLT, Int.reduceToNat, Nat.reduceLeDiff, Nat.sub_zero])
  refine few_c hb h ?_
  cases hg : fewL b with
  | false =>
    (simp (maxSteps := 1000000) (dsimp := false) (disch := (first | omega | (simp only [okR]; done) | (simp only [sizeR] <;> omega) | fail)) only [↓preR, postR, ↓w_join, Nat.reduceEqDiff, Nat.reduceAdd, Nat.reduceSub, Nat.reduceMul, Int.reduceNeg, Nat.reduceLT, Int.reduceToNat, Nat.reduceLeDiff, Nat.sub_zero])
    refine awake_c h fun X4 s4 hx4 h4 => ?_
    (try simp (maxSteps := 1000000) (dsimp := false) (disch := (first | omega | (simp only [okR]; done) | (simp only [sizeR] <;> omega) | fail)) only [↓preR, postR, ↓w_join, Nat.reduceEqDiff, Nat.reduceAdd, Nat.reduceSub, Nat.reduceMul, Int.reduceNeg, Nat.reduceLT, Int.reduceToNat, Nat.reduceLeDiff, Nat.sub_zero])
  | true =>
  by_cases hs : s.length ≤ 100
  · have hna := (few_len hf).1
    have hnb := (few_len hg).1
    (simp (maxSteps := 1000000) (dsimp := false) (disch := (first | omega | (simp only [okR]; done) | (simp only [sizeR] <;> omega) | fail)) only [↓preR, postR, ↓w_join, Nat.reduceEqDiff, Nat.reduceAdd, Nat.reduceSub, Nat.reduceMul, Int.reduceNeg, Nat.reduceLT, Int.reduceToNat, Nat.reduceLeDiff, Nat.sub_zero])
    refine appL_by (h.own0 (α := Tok)) ha (e := 47) (bytes := 40) (by kernel_rfl) (by kernel_rfl) (by simp; omega) (by simp; unfold maxLen; omega) fun v1 s1 h1 => ?_
    rw [List.nil_append] at h1
    (try simp (maxSteps := 1000000) (dsimp := false) (disch := (first | omega | (simp only [okR]; done) | (simp only [sizeR] <;> omega) | fail)) only [↓preR, postR, ↓w_join, Nat.reduceEqDiff, Nat.reduceAdd, Nat.reduceSub, Nat.reduceMul, Int.reduceNeg, Nat.reduceLT, Int.reduceToNat, Nat.reduceLeDiff, Nat.sub_zero])
    refine appL_by h1 hb (e := 47) (bytes := 40) (by kernel_rfl) (by kernel_rfl) (by omega) (by unfold maxLen; omega) fun v2 s2 h2 => ?_
    obtain ⟨X3, hx3, hv2, h3⟩ := h2.keep
    have ha := ha.mono hx3
    have hb := hb.mono hx3
    (try simp (maxSteps := 1000000) (dsimp := false) (disch := (first | omega | (simp only [okR]; done) | (simp only [sizeR] <;> omega) | fail)) only [↓preR, postR, ↓w_stop, Nat.reduceEqDiff, Nat.reduceAdd, Nat.reduceSub, Nat.reduceMul, Int.reduceNeg, Nat.reduceLT, Int.reduceToNat, Nat.reduceLeDiff, Nat.sub_zero])
    refine join_now ?_
    refine loop_inv (fun nn xs s4 => ∃ j : Nat, xs = [.bool ((List.range j).any fun i => matchL a (s.take i) && matchL b (s.drop i)), .int .i64 j] ∧ j ≤ s.length + 1 ∧ Hs s4 X3 R ∧ nn = s.length + 1 - j) _ ⟨0, rfl, Nat.zero_le _, h3, rfl⟩ ?_
    clear h1 h2 h3
    rintro _ _ s4 again ⟨j, rfl, hj, h4, rfl⟩ hag
    by_cases hlt : j < s.length + 1
    · have next : ∀ s5, Hs s5 X3 R → again [.bool (((List.range j).any fun i => matchL a (s.take i) && matchL b (s.drop i)) || (matchL a (s.take j) && matchL b (s.drop j))), .int .i64 ((j : Int) + 1)] s5 := by
        intro s5 h5
        refine hag _ _ _ ⟨j + 1, ?_, by omega, h5, rfl⟩ (by omega)
        rw [List.range_succ, List.any_append]
        simp
      clear hag
      generalize ((List.range j).any fun i => matchL a (s.take i) && matchL b (s.drop i)) = w at next ⊢
      have eD : (s.drop j).take (s.length - j) = s.drop j := List.take_of_length_le (by simp)
      cases w with
      | true =>
        (simp (maxSteps := 1000000) (dsimp := false) (disch := (first | omega | (simp only [okR]; done) | (simp only [sizeR] <;> omega) | fail)) only [↓preR, postR, ↓w_join, Nat.reduceEqDiff, Nat.reduceAdd, Nat.reduceSub, Nat.reduceMul, Int.reduceNeg, Nat.reduceLT, Int.reduceToNat, Nat.reduceLeDiff, Nat.sub_zero])
        have := next _ h4
        rw [Bool.true_or] at this
        exact this
      | false =>
        rw [Bool.false_or] at next
        (simp (maxSteps := 1000000) (dsimp := false) (disch := (first | omega | (simp only [okR]; done) | (simp only [sizeR] <;> omega) | fail)) only [↓preR, postR, ↓w_join, Nat.reduceEqDiff, Nat.reduceAdd, Nat.reduceSub, Nat.reduceMul, Int.reduceNeg, Nat.reduceLT, Int.reduceToNat, Nat.reduceLeDiff, Nat.sub_zero])
        refine match_c (s := s.take j) ha (by simp; omega) h4 fun s5 h5 => ?_
        cases hm : matchL a (s.take j) with
        | false =>
          rw [hm, Bool.false_and] at next
          (simp (maxSteps := 1000000) (dsimp := false) (disch := (first | omega | (simp only [okR]; done) | (simp only [sizeR] <;> omega) | fail)) only [↓preR, postR, ↓w_join, Nat.reduceEqDiff, Nat.reduceAdd, Nat.reduceSub, Nat.reduceMul, Int.reduceNeg, Nat.reduceLT, Int.reduceToNat, Nat.reduceLeDiff, Nat.sub_zero])
          exact next _ h5
        | true =>
          rw [hm, Bool.true_and] at next
          (simp (maxSteps := 1000000) (dsimp := false) (disch := (first | omega | (simp only [okR]; done) | (simp only [sizeR] <;> omega) | fail)) only [↓preR, postR, ↓w_join, Nat.reduceEqDiff, Nat.reduceAdd, Nat.reduceSub, Nat.reduceMul, Int.reduceNeg, Nat.reduceLT, Int.reduceToNat, Nat.reduceLeDiff, Nat.sub_zero, eD])
          refine match_c (s := s.drop j) hb (by simp; omega) h5 fun s6 h6 => ?_
          (simp (maxSteps := 1000000) (dsimp := false) (disch := (first | omega | (simp only [okR]; done) | (simp only [sizeR] <;> omega) | fail)) only [↓preR, postR, ↓w_join, Nat.reduceEqDiff, Nat.reduceAdd, Nat.reduceSub, Nat.reduceMul, Int.reduceNeg, Nat.reduceLT, Int.reduceToNat, Nat.reduceLeDiff, Nat.sub_zero])
          exact next _ h6
    · obtain rfl : j = s.length + 1 := by omega
      have bb : ∀ b : Bool, (b == b) = true := by decide
      (simp (maxSteps := 1000000) (dsimp := false) (disch := (first | omega | (simp only [okR]; done) | (simp only [sizeR] <;> omega) | fail)) only [↓preR, postR, ↓w_join, Nat.reduceEqDiff, Nat.reduceAdd, Nat.reduceSub, Nat.reduceMul, Int.reduceNeg, Nat.reduceLT, Int.reduceToNat, Nat.reduceLeDiff, Nat.sub_zero])
      refine match_c hv2 (by omega) h4 fun s5 h5 => ?_
      rw [← match_join]
      (simp (maxSteps := 1000000) (dsimp := false) (disch := (first | omega | (simp only [okR]; done) | (simp only [sizeR] <;> omega) | fail)) only [↓preR, postR, ↓w_join, Nat.reduceEqDiff, Nat.reduceAdd, Nat.reduceSub, Nat.reduceMul, Int.reduceNeg, Nat.reduceLT, Int.reduceToNat, Nat.reduceLeDiff, Nat.sub_zero, bb])
      refine awake_c h5 fun X6 s6 hx6 h6 => ?_
      (simp (maxSteps := 1000000) (dsimp := false) (disch := (first | omega | (simp only [okR]; done) | (simp only [sizeR] <;> omega) | fail)) only [↓preR, postR, ↓w_join, Nat.reduceEqDiff, Nat.reduceAdd, Nat.reduceSub, Nat.reduceMul, Int.reduceNeg, Nat.reduceLT, Int.reduceToNat, Nat.reduceLeDiff, Nat.sub_zero])
  · (simp (maxSteps := 1000000) (dsimp := false) (disch := (first | omega | (simp only [okR]; done) | (simp only [sizeR] <;> omega) | fail)) only [↓preR, postR, ↓w_join, Nat.reduceEqDiff, Nat.reduceAdd, Nat.reduceSub, Nat.reduceMul, Int.reduceNeg, Nat.reduceLT, Int.reduceToNat, Nat.reduceLeDiff, Nat.sub_zero])
    refine awake_c h fun X4 s4 hx4 h4 => ?_
    (try simp (maxSteps := 1000000) (dsimp := false) (disch := (first | omega | (simp only [okR]; done) | (simp only [sizeR] <;> omega) | fail)) only [↓preR, postR, ↓w_join, Nat.reduceEqDiff, Nat.reduceAdd, Nat.reduceSub, Nat.reduceMul, Int.reduceNeg, Nat.reduceLT, Int.reduceToNat, Nat.reduceLeDiff, Nat.sub_zero])
end
end Go.Proofs.Ytgkhdiahncemcaa
