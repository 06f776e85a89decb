/- Words: how one is written. Conditions: as each theorem says. -/
import Derived.Test.YtmgdkoidgoihfaaGreatDoorWdG
import Derived.Test.YtmgdkoidgoihfaaGreatDoorWdK
import Derived.Test.YtmgdkoidgoihfaaGreatDoorBd
namespace Go.Proofs.YtmgdkoidgoihfaaGreatDoor
open E Go.Lib
open Go.RowKit
set_option linter.unusedVariables false
set_option linter.unusedSimpArgs false
set_option maxHeartbeats 1000000
set_option maxRecDepth 20000

theorem esc_cons (set : Str) (c : UInt8) (s : Str) : escP set (c :: s) = if set.contains c = true then 92 :: c :: escP set s else c :: escP set s := rfl
/-- A text in single quotes, as the program makes it. -/
def QuoteC (X : Ce) : Prop := ∀ {σ : AS} {R : List Ck} {k : Value → AS → Prop} {s : Str}, s.length ≤ 100000 → Hs σ X R → (∀ σ', Hs σ' X R → k (.string (bs (quoteP s))) σ') → kCall Tryz.prog 94 [.string (bs s)] σ k
def stF (way : Nat) : Nat := if way = 3 then 90 else if way = 4 then 92 else if way = 5 then 93 else 94
section
variable {σ σ' : AS} {X : Ce} {R : List Ck} {k : Value → AS → Prop} {p n i f : Nat} {s t set : Str} {c : UInt8} {way : Nat} {q : Bool}
theorem escaped_c (hs : s.length ≤ 1000000) (h : Hs σ X R) (hk : ∀ σ', Hs σ' X R → k (.string (bs (escP set s))) σ') : kCall Tryz.prog 91 [.string (bs s), .string (bs set)] σ k := by
  refine f91 ?_
  have h1 := Bd.new h
  (try simp (maxSteps := 1000000) (dsimp := false) (disch := (first | omega | (simp only [okR]; done) | (simp only [sizeR] <;> omega) | fail)) only [↓preR, postR, ↓w_stop, Nat.reduceEqDiff, Nat.reduceAdd, Nat.reduceSub, Nat.reduceMul, Int.reduceNeg, Nat.reduceLT, Int.reduceToNat, Nat.reduceLeDiff, Nat.sub_zero, F91])
  generalize AS.new σ _ = s1 at h1 ⊢
  generalize σ.n = p at h1 ⊢
  refine join_by fun J1 hJ1 => ?_
  have tail : ∀ s2, Hs s2 X (Bd p (escP set s) :: R) → J1 [] s2 := by
    intro s2 h2
    have := esc_len set s
    refine hJ1 _ _ ?_
    (try simp (maxSteps := 1000000) (dsimp := false) (disch := (first | omega | (simp only [okR]; done) | (simp only [sizeR] <;> omega) | fail)) only [↓preR, postR, ↓w_stop, Nat.reduceEqDiff, Nat.reduceAdd, Nat.reduceSub, Nat.reduceMul, Int.reduceNeg, Nat.reduceLT, Int.reduceToNat, Nat.reduceLeDiff, Nat.sub_zero])
    refine bstr_c h2 (by omega) fun s3 h3 => ?_
    (try simp (maxSteps := 1000000) (dsimp := false) (disch := (first | omega | (simp only [okR]; done) | (simp only [sizeR] <;> omega) | fail)) only [↓preR, postR, ↓w_stop, Nat.reduceEqDiff, Nat.reduceAdd, Nat.reduceSub, Nat.reduceMul, Int.reduceNeg, Nat.reduceLT, Int.reduceToNat, Nat.reduceLeDiff, Nat.sub_zero])
    exact hk _ h3
  clear hJ1
  (try simp (maxSteps := 1000000) (dsimp := false) (disch := (first | omega | (simp only [okR]; done) | (simp only [sizeR] <;> omega) | fail)) only [↓preR, postR, ↓w_stop, Nat.reduceEqDiff, Nat.reduceAdd, Nat.reduceSub, Nat.reduceMul, Int.reduceNeg, Nat.reduceLT, Int.reduceToNat, Nat.reduceLeDiff, Nat.sub_zero])
  refine loop_inv (fun nn xs s2 => ∃ (j : Nat) (t : Str), xs = [.int .i64 j] ∧ j ≤ s.length ∧ Hs s2 X (Bd p t :: R) ∧ t ++ escP set (s.drop j) = escP set s ∧ t.length ≤ 2 * j ∧ nn = s.length - j) _ ⟨0, [], rfl, Nat.zero_le _, h1, rfl, Nat.le_refl _, rfl⟩ ?_
  rintro _ _ s2 again ⟨j, t, rfl, hj, h2, he, htl, rfl⟩ hag
  (try simp (maxSteps := 1000000) (dsimp := false) (disch := (first | omega | (simp only [okR]; done) | (simp only [sizeR] <;> omega) | fail)) only [↓preR, postR, ↓w_stop, Nat.reduceEqDiff, Nat.reduceAdd, Nat.reduceSub, Nat.reduceMul, Int.reduceNeg, Nat.reduceLT, Int.reduceToNat, Nat.reduceLeDiff, Nat.sub_zero])
  refine join_now ?_
  by_cases hlt : j < s.length
  · have hgd : (s[j]?.getD 0) = s[j] := by simp [hlt]
    rw [drop_c hlt, esc_cons] at he
    (try simp (maxSteps := 1000000) (dsimp := false) (disch := (first | omega | (simp only [okR]; done) | (simp only [sizeR] <;> omega) | fail)) only [↓preR, postR, ↓w_stop, Nat.reduceEqDiff, Nat.reduceAdd, Nat.reduceSub, Nat.reduceMul, Int.reduceNeg, Nat.reduceLT, Int.reduceToNat, Nat.reduceLeDiff, Nat.sub_zero])
    refine join_now ?_
    (try simp (maxSteps := 1000000) (dsimp := false) (disch := (first | omega | (simp only [okR]; done) | (simp only [sizeR] <;> omega) | fail)) only [↓preR, postR, ↓w_stop, Nat.reduceEqDiff, Nat.reduceAdd, Nat.reduceSub, Nat.reduceMul, Int.reduceNeg, Nat.reduceLT, Int.reduceToNat, Nat.reduceLeDiff, Nat.sub_zero, hgd])
    refine join_by fun J5 hJ5 => ?_
    have tail5 : ∀ t' s3, Hs s3 X (Bd p t' :: R) → t' ++ (s[j] :: escP set (s.drop (j + 1))) = escP set s → t'.length ≤ 2 * j + 1 → J5 [] s3 := by
      intro t' s3 h3 he' hl'
      refine hJ5 _ _ ?_
      (try simp (maxSteps := 1000000) (dsimp := false) (disch := (first | omega | (simp only [okR]; done) | (simp only [sizeR] <;> omega) | fail)) only [↓preR, postR, ↓w_stop, Nat.reduceEqDiff, Nat.reduceAdd, Nat.reduceSub, Nat.reduceMul, Int.reduceNeg, Nat.reduceLT, Int.reduceToNat, Nat.reduceLeDiff, Nat.sub_zero, hgd])
      refine wrb_c rfl h3 (by omega) fun v s4 h4 => ?_
      (try simp (maxSteps := 1000000) (dsimp := false) (disch := (first | omega | (simp only [okR]; done) | (simp only [sizeR] <;> omega) | fail)) only [↓preR, postR, ↓w_stop, Nat.reduceEqDiff, Nat.reduceAdd, Nat.reduceSub, Nat.reduceMul, Int.reduceNeg, Nat.reduceLT, Int.reduceToNat, Nat.reduceLeDiff, Nat.sub_zero])
      exact hag _ _ _ ⟨j + 1, t' ++ [s[j]], rfl, hlt, h4, by rw [← he']; simp, by rw [List.length_append]; simp; omega, rfl⟩ (by omega)
    clear hJ5
    (try simp (maxSteps := 1000000) (dsimp := false) (disch := (first | omega | (simp only [okR]; done) | (simp only [sizeR] <;> omega) | fail)) only [↓preR, postR, ↓w_stop, Nat.reduceEqDiff, Nat.reduceAdd, Nat.reduceSub, Nat.reduceMul, Int.reduceNeg, Nat.reduceLT, Int.reduceToNat, Nat.reduceLeDiff, Nat.sub_zero, hgd])
    refine idx_c rfl ?_
    have hps := posB_has s[j] set
    cases hpo : posB s[j] set with
    | none =>
      rw [hpo] at hps
      rw [← hps] at he
      simp only [Option.isSome_none, Bool.false_eq_true, if_false] at he
      (try simp (maxSteps := 1000000) (dsimp := false) (disch := (first | omega | (simp only [okR]; done) | (simp only [sizeR] <;> omega) | fail)) only [↓preR, postR, ↓w_stop, Nat.reduceEqDiff, Nat.reduceAdd, Nat.reduceSub, Nat.reduceMul, Int.reduceNeg, Nat.reduceLT, Int.reduceToNat, Nat.reduceLeDiff, Nat.sub_zero])
      exact tail5 t s2 h2 he (by omega)
    | some m =>
      rw [hpo] at hps
      rw [← hps] at he
      simp only [Option.isSome_some, if_true] at he
      (try simp (maxSteps := 1000000) (dsimp := false) (disch := (first | omega | (simp only [okR]; done) | (simp only [sizeR] <;> omega) | fail)) only [↓preR, postR, ↓w_stop, Nat.reduceEqDiff, Nat.reduceAdd, Nat.reduceSub, Nat.reduceMul, Int.reduceNeg, Nat.reduceLT, Int.reduceToNat, Nat.reduceLeDiff, Nat.sub_zero])
      refine wrb_c (c := 92) rfl h2 (by omega) fun v s3 h3 => ?_
      (try simp (maxSteps := 1000000) (dsimp := false) (disch := (first | omega | (simp only [okR]; done) | (simp only [sizeR] <;> omega) | fail)) only [↓preR, postR, ↓w_stop, Nat.reduceEqDiff, Nat.reduceAdd, Nat.reduceSub, Nat.reduceMul, Int.reduceNeg, Nat.reduceLT, Int.reduceToNat, Nat.reduceLeDiff, Nat.sub_zero])
      exact tail5 (t ++ [92]) s3 h3 (by rw [← he]; simp) (by rw [List.length_append]; simp; omega)
  · rw [List.drop_of_length_le (by omega)] at he
    simp only [escP, List.append_nil] at he
    (try simp (maxSteps := 1000000) (dsimp := false) (disch := (first | omega | (simp only [okR]; done) | (simp only [sizeR] <;> omega) | fail)) only [↓preR, postR, ↓w_stop, Nat.reduceEqDiff, Nat.reduceAdd, Nat.reduceSub, Nat.reduceMul, Int.reduceNeg, Nat.reduceLT, Int.reduceToNat, Nat.reduceLeDiff, Nat.sub_zero])
    rw [he] at h2
    exact tail s2 h2
theorem style_c (hw : way ≤ 5) (h : Hs σ X R) (hk : ∀ σ', Hs σ' X R → k (.agg #[.func (.func (stF way)) #[] #[], .bool (quoteB way), .bool (underB way)]) σ') : kCall Tryz.prog 76 [.int .i64 way] σ k := by
  refine f76 ?_
  have h1 := h.new (cs := [.nilFunc, .bool false, .bool false])
  have h2 := h1.put (cs' := [.func (.func (stF way)) #[] #[], .bool (quoteB way), .bool (underB way)])
  (try simp (maxSteps := 1000000) (dsimp := false) (disch := (first | omega | (simp only [okR]; done) | (simp only [sizeR] <;> omega) | fail)) only [↓preR, postR, ↓w_stop, Nat.reduceEqDiff, Nat.reduceAdd, Nat.reduceSub, Nat.reduceMul, Int.reduceNeg, Nat.reduceLT, Int.reduceToNat, Nat.reduceLeDiff, Nat.sub_zero, F76])
  refine join_now ?_
  have : way = 0 ∨ way = 1 ∨ way = 2 ∨ way = 3 ∨ way = 4 ∨ way = 5 := by omega
  rcases this with rfl | rfl | rfl | rfl | rfl | rfl
  all_goals
    (try simp (maxSteps := 1000000) (dsimp := false) (disch := (first | omega | (simp only [okR]; done) | (simp only [sizeR] <;> omega) | fail)) only [↓preR, postR, ↓w_stop, Nat.reduceEqDiff, Nat.reduceAdd, Nat.reduceSub, Nat.reduceMul, Int.reduceNeg, Nat.reduceLT, Int.reduceToNat, Nat.reduceLeDiff, Nat.sub_zero, h1.obj])
    exact hk _ h2.drop
/-- A quoted Lit. -/
theorem lits_c (hw : way ≤ 5) (hs : t.length ≤ 100000) (hQ : QuoteC X) (h : Hs σ X R) (hk : ∀ σ', Hs σ' X R → k (.string (bs (litW t way))) σ') : kCallv Tryz.prog (.func (.func (stF way)) #[] #[]) [.string (bs t)] σ k := by
  unfold stF
  unfold litW at hk
  by_cases h3 : way = 3
  · rw [if_pos h3]
    rw [if_pos h3] at hk
    refine ⟨k90_ok, ?_⟩
    refine f90 ?_
    (try simp (maxSteps := 1000000) (dsimp := false) (disch := (first | omega | (simp only [okR]; done) | (simp only [sizeR] <;> omega) | fail)) only [↓preR, postR, ↓w_stop, Nat.reduceEqDiff, Nat.reduceAdd, Nat.reduceSub, Nat.reduceMul, Int.reduceNeg, Nat.reduceLT, Int.reduceToNat, Nat.reduceLeDiff, Nat.sub_zero, F90])
    refine join_now ?_
    by_cases h0 : t = []
    · have hT : (t = []) = True := eq_true h0
      rw [if_pos h0] at hk
      (try simp (maxSteps := 1000000) (dsimp := false) (disch := (first | omega | (simp only [okR]; done) | (simp only [sizeR] <;> omega) | fail)) only [↓preR, postR, ↓w_stop, Nat.reduceEqDiff, Nat.reduceAdd, Nat.reduceSub, Nat.reduceMul, Int.reduceNeg, Nat.reduceLT, Int.reduceToNat, Nat.reduceLeDiff, Nat.sub_zero, hT])
      exact hk _ h
    · have hF : (t = []) = False := eq_false h0
      rw [if_neg h0] at hk
      (try simp (maxSteps := 1000000) (dsimp := false) (disch := (first | omega | (simp only [okR]; done) | (simp only [sizeR] <;> omega) | fail)) only [↓preR, postR, ↓w_stop, Nat.reduceEqDiff, Nat.reduceAdd, Nat.reduceSub, Nat.reduceMul, Int.reduceNeg, Nat.reduceLT, Int.reduceToNat, Nat.reduceLeDiff, Nat.sub_zero, hF])
      refine escaped_c (by omega) h fun s1 h1 => ?_
      (try simp (maxSteps := 1000000) (dsimp := false) (disch := (first | omega | (simp only [okR]; done) | (simp only [sizeR] <;> omega) | fail)) only [↓preR, postR, ↓w_stop, Nat.reduceEqDiff, Nat.reduceAdd, Nat.reduceSub, Nat.reduceMul, Int.reduceNeg, Nat.reduceLT, Int.reduceToNat, Nat.reduceLeDiff, Nat.sub_zero])
      exact hk _ h1
  rw [if_neg h3]
  rw [if_neg h3] at hk
  by_cases h4 : way = 4
  · rw [if_pos h4]
    rw [if_pos h4] at hk
    refine ⟨k92_ok, ?_⟩
    refine f92 ?_
    (try simp (maxSteps := 1000000) (dsimp := false) (disch := (first | omega | (simp only [okR]; done) | (simp only [sizeR] <;> omega) | fail)) only [↓preR, postR, ↓w_stop, Nat.reduceEqDiff, Nat.reduceAdd, Nat.reduceSub, Nat.reduceMul, Int.reduceNeg, Nat.reduceLT, Int.reduceToNat, Nat.reduceLeDiff, Nat.sub_zero, F92])
    refine escaped_c (by omega) h fun s1 h1 => ?_
    have := esc_len [36, 34, 92, 96] t
    (try simp (maxSteps := 1000000) (dsimp := false) (disch := (first | omega | (simp only [okR]; done) | (simp only [sizeR] <;> omega) | fail)) only [↓preR, postR, ↓w_stop, Nat.reduceEqDiff, Nat.reduceAdd, Nat.reduceSub, Nat.reduceMul, Int.reduceNeg, Nat.reduceLT, Int.reduceToNat, Nat.reduceLeDiff, Nat.sub_zero])
    exact hk _ h1
  rw [if_neg h4]
  rw [if_neg h4] at hk
  by_cases h5 : way = 5
  · rw [if_pos h5]
    rw [if_pos h5] at hk
    refine ⟨k93_ok, ?_⟩
    refine f93 ?_
    (try simp (maxSteps := 1000000) (dsimp := false) (disch := (first | omega | (simp only [okR]; done) | (simp only [sizeR] <;> omega) | fail)) only [↓preR, postR, ↓w_stop, Nat.reduceEqDiff, Nat.reduceAdd, Nat.reduceSub, Nat.reduceMul, Int.reduceNeg, Nat.reduceLT, Int.reduceToNat, Nat.reduceLeDiff, Nat.sub_zero, F93])
    refine escaped_c (by omega) h fun s1 h1 => ?_
    (try simp (maxSteps := 1000000) (dsimp := false) (disch := (first | omega | (simp only [okR]; done) | (simp only [sizeR] <;> omega) | fail)) only [↓preR, postR, ↓w_stop, Nat.reduceEqDiff, Nat.reduceAdd, Nat.reduceSub, Nat.reduceMul, Int.reduceNeg, Nat.reduceLT, Int.reduceToNat, Nat.reduceLeDiff, Nat.sub_zero])
    exact hk _ h1
  rw [if_neg h5]
  rw [if_neg h5] at hk
  refine ⟨k94_ok, ?_⟩
  exact hQ hs h hk
theorem index_c {kb : Nat} {op : Int} (h : Hs σ X (Cel kb (ops8.map fun o => .int .i64 o.2) :: R))
    (hk1 : ∀ (j : Nat) (hj : j < ops8.length), (ops8[j]).2 = op → k (.int .i64 j) σ) (hk0 : (∀ (j : Nat) (hj : j < ops8.length), ¬ (ops8[j]).2 = op) → k (.int .i64 (-1)) σ) :
    kCall Tryz.prog 77 [.slice (some ⟨kb, 0, none⟩) 8 8, .int .i64 op] σ k := by
  refine f77 ?_
  (try simp (maxSteps := 1000000) (dsimp := false) (disch := (first | omega | (simp only [okR]; done) | (simp only [sizeR] <;> omega) | fail)) only [↓preR, postR, ↓w_stop, Nat.reduceEqDiff, Nat.reduceAdd, Nat.reduceSub, Nat.reduceMul, Int.reduceNeg, Nat.reduceLT, Int.reduceToNat, Nat.reduceLeDiff, Nat.sub_zero, F77])
  refine join_now ?_
  (try simp (maxSteps := 1000000) (dsimp := false) (disch := (first | omega | (simp only [okR]; done) | (simp only [sizeR] <;> omega) | fail)) only [↓preR, postR, ↓w_stop, Nat.reduceEqDiff, Nat.reduceAdd, Nat.reduceSub, Nat.reduceMul, Int.reduceNeg, Nat.reduceLT, Int.reduceToNat, Nat.reduceLeDiff, Nat.sub_zero])
  refine loop_inv (fun nn xs s2 => ∃ j : Nat, xs = [.int .i64 j] ∧ σ = s2 ∧ j ≤ 8 ∧ (∀ (i : Nat) (hi : i < ops8.length), i < j → ¬ (ops8[i]).2 = op) ∧ nn = 8 - j) _ ⟨0, rfl, rfl, by omega, fun i _ hi => by omega, rfl⟩ ?_
  rintro _ _ s2 again ⟨j, rfl, rfl, hj, hno, rfl⟩ hag
  (try simp (maxSteps := 1000000) (dsimp := false) (disch := (first | omega | (simp only [okR]; done) | (simp only [sizeR] <;> omega) | fail)) only [↓preR, postR, ↓w_stop, Nat.reduceEqDiff, Nat.reduceAdd, Nat.reduceSub, Nat.reduceMul, Int.reduceNeg, Nat.reduceLT, Int.reduceToNat, Nat.reduceLeDiff, Nat.sub_zero])
  refine join_now ?_
  by_cases hlt : j < 8
  · have hj8 : j < ops8.length := hlt
    have go2 := (ops_get hj8).2
    (try simp (maxSteps := 1000000) (dsimp := false) (disch := (first | omega | (simp only [okR]; done) | (simp only [sizeR] <;> omega) | fail)) only [↓preR, postR, ↓w_stop, Nat.reduceEqDiff, Nat.reduceAdd, Nat.reduceSub, Nat.reduceMul, Int.reduceNeg, Nat.reduceLT, Int.reduceToNat, Nat.reduceLeDiff, Nat.sub_zero])
    refine join_now ?_
    have hm := h.obj
    by_cases he : (ops8[j]).2 = op
    · have he' : op = (ops8[j]).2 := he.symm
      (try simp (maxSteps := 1000000) (dsimp := false) (disch := (first | omega | (simp only [okR]; done) | (simp only [sizeR] <;> omega) | fail)) only [↓preR, postR, ↓w_stop, Nat.reduceEqDiff, Nat.reduceAdd, Nat.reduceSub, Nat.reduceMul, Int.reduceNeg, Nat.reduceLT, Int.reduceToNat, Nat.reduceLeDiff, Nat.sub_zero, hm, go2])
      exact hk1 j hj8 he
    · have he' : ¬ op = (ops8[j]).2 := fun h => he h.symm
      (try simp (maxSteps := 1000000) (dsimp := false) (disch := (first | omega | (simp only [okR]; done) | (simp only [sizeR] <;> omega) | fail)) only [↓preR, postR, ↓w_stop, Nat.reduceEqDiff, Nat.reduceAdd, Nat.reduceSub, Nat.reduceMul, Int.reduceNeg, Nat.reduceLT, Int.reduceToNat, Nat.reduceLeDiff, Nat.sub_zero, hm, go2])
      refine hag _ _ _ ⟨j + 1, rfl, rfl, hlt, fun i hi hij => ?_, rfl⟩ (by omega)
      by_cases hij' : i = j
      · subst hij'; exact he
      · exact hno i hi (by omega)
  · (try simp (maxSteps := 1000000) (dsimp := false) (disch := (first | omega | (simp only [okR]; done) | (simp only [sizeR] <;> omega) | fail)) only [↓preR, postR, ↓w_stop, Nat.reduceEqDiff, Nat.reduceAdd, Nat.reduceSub, Nat.reduceMul, Int.reduceNeg, Nat.reduceLT, Int.reduceToNat, Nat.reduceLeDiff, Nat.sub_zero])
    exact hk0 fun i hi => hno i hi (by have : ops8.length = 8 := rfl; omega)
theorem ops_sign : ∀ (j : Nat) (hj : j < ops8.length), (ops8[j]).1 = signP (ops8[j]).2 ∧ 2 ≤ (ops8[j]).2 ∧ (ops8[j]).2 ≤ 9 := by decide
theorem ops_none {op : Int} (h : ∀ (j : Nat) (hj : j < ops8.length), ¬ (ops8[j]).2 = op) : op < 2 ∨ 9 < op := by
  have a0 : ¬ (7 : Int) = op := h 0 (by decide)
  have a1 : ¬ (9 : Int) = op := h 1 (by decide)
  have a2 : ¬ (6 : Int) = op := h 2 (by decide)
  have a3 : ¬ (8 : Int) = op := h 3 (by decide)
  have a4 : ¬ (2 : Int) = op := h 4 (by decide)
  have a5 : ¬ (3 : Int) = op := h 5 (by decide)
  have a6 : ¬ (4 : Int) = op := h 6 (by decide)
  have a7 : ¬ (5 : Int) = op := h 7 (by decide)
  omega
end
end Go.Proofs.YtmgdkoidgoihfaaGreatDoor

/- Words: a part, a word, as they are written. Conditions: as each theorem says. -/
namespace Go.Proofs.YtmgdkoidgoihfaaGreatDoor
open E Go.Lib
open Go.RowKit
set_option linter.unusedVariables false
set_option linter.unusedSimpArgs false
set_option maxHeartbeats 1000000
set_option maxRecDepth 20000

/-- What a word's writing does, for words of a size. -/
def WrC (n : Nat) : Prop := ∀ {σ : AS} {X : Ce} {R : List Ck} {k : Value → AS → Prop} {w : List Pt} {v : Value} {way : Nat}, szW w < n → szW w ≤ 8000 → way ≤ 5 → (hasQ w = true → QuoteC X) → RepL X v w → Hs σ X R → (∀ σ', Hs σ' X R → k (.string (bs (writtenW w way))) σ') → kCall Tryz.prog 33 [v, .int .i64 way] σ k
section
variable {σ σ' : AS} {X : Ce} {R : List Ck} {k : Value → AS → Prop} {p n i f : Nat} {s t set : Str} {c : UInt8} {way : Nat} {q : Bool}
theorem part_c (ih : WrC n) {x : Pt} {v : Value} (hx : RpPt X x (ptC x v)) (hsz : szW x.word < n) (hsz2 : szPt x ≤ 8000) (hw : way ≤ 5) (hQ : hasQp x = true → QuoteC X) (h : Hs σ X R) (hk : ∀ σ', Hs σ' X R → k (.string (bs (partW x way))) σ') :
    kCall Tryz.prog 56 [ptV x v, .int .i64 way] σ k := by
  obtain ⟨va, vn, vc, rfl⟩ := hx.val
  obtain ⟨hxt, _, _, hxw⟩ := hx.rest
  refine f56 ?_
  obtain ⟨kd, tx, qt, op, cl, wd⟩ := x
  simp only [Pt.text, Pt.word] at hxt hsz hxw
  have hpl := part_len (.mk kd tx qt op cl wd) way
  have htl : tx.length ≤ 8000 := by unfold szPt at hsz2; omega
  have hwl : szW wd ≤ 8000 := by unfold szPt at hsz2; omega
  have hwrl : ∀ y, (writtenW wd y).length ≤ 96000 := fun y => by have := written_len wd y; omega
  unfold partW at hk
  have h1 := h.new (cs := ptC (.mk kd tx qt op cl wd) (.slice va vn vc))
  have hcs : ptC (.mk kd tx qt op cl wd) (.slice va vn vc) = [.int .i64 kd, .string (bs tx), .bool qt, .int .i64 op, .bool cl, .slice va vn vc] := rfl
  rw [hcs] at h1
  have hcv : cellsV (ptV (.mk kd tx qt op cl wd) (.slice va vn vc)) = [.int .i64 kd, .string (bs tx), .bool qt, .int .i64 op, .bool cl, .slice va vn vc] := rfl
  (try simp (maxSteps := 1000000) (dsimp := false) (disch := (first | omega | (simp only [okR]; done) | (simp only [sizeR] <;> omega) | fail)) only [↓preR, postR, ↓w_stop, Nat.reduceEqDiff, Nat.reduceAdd, Nat.reduceSub, Nat.reduceMul, Int.reduceNeg, Nat.reduceLT, Int.reduceToNat, Nat.reduceLeDiff, Nat.sub_zero, F56, hcv])
  generalize AS.new σ _ = s1 at h1 ⊢
  generalize σ.n = b at h1 ⊢
  refine style_c hw h1 fun s2 h2 => ?_
  have h3 := h2.new (cs := [.nilFunc, .bool false, .bool false])
  have h4 := h3.put (cs' := [.func (.func (stF way)) #[] #[], .bool (quoteB way), .bool (underB way)])
  (try simp (maxSteps := 1000000) (dsimp := false) (disch := (first | omega | (simp only [okR]; done) | (simp only [sizeR] <;> omega) | fail)) only [↓preR, postR, ↓w_stop, Nat.reduceEqDiff, Nat.reduceAdd, Nat.reduceSub, Nat.reduceMul, Int.reduceNeg, Nat.reduceLT, Int.reduceToNat, Nat.reduceLeDiff, Nat.sub_zero, h3.obj])
  generalize AS.put _ _ _ = s3 at h4 ⊢
  generalize s2.n = st at h4 ⊢
  clear h h1 h2 h3
  refine join_by fun J1 hJ1 => ?_
  have tail1 : ∀ (o : Str) s4, o.length ≤ 200000 → (∀ σ', Hs σ' X R → k (.string (bs (inQ (qt && quoteB way) o))) σ') → Hs s4 X (Cel st [.func (.func (stF way)) #[] #[], .bool (quoteB way), .bool (underB way)] :: Cel b [.int .i64 kd, .string (bs tx), .bool qt, .int .i64 op, .bool cl, .slice va vn vc] :: R) → J1 [.string (bs o)] s4 := by
    intro o s4 hol hk h5
    refine hJ1 _ _ ?_
    clear hJ1
    (try simp (maxSteps := 1000000) (dsimp := false) (disch := (first | omega | (simp only [okR]; done) | (simp only [sizeR] <;> omega) | fail)) only [↓preR, postR, ↓w_stop, Nat.reduceEqDiff, Nat.reduceAdd, Nat.reduceSub, Nat.reduceMul, Int.reduceNeg, Nat.reduceLT, Int.reduceToNat, Nat.reduceLeDiff, Nat.sub_zero])
    refine join_now ?_
    cases hqt : qt with
    | false =>
      rw [hqt] at h5 hk
      (try simp (maxSteps := 1000000) (dsimp := false) (disch := (first | omega | (simp only [okR]; done) | (simp only [sizeR] <;> omega) | fail)) only [↓preR, postR, ↓w_stop, Nat.reduceEqDiff, Nat.reduceAdd, Nat.reduceSub, Nat.reduceMul, Int.reduceNeg, Nat.reduceLT, Int.reduceToNat, Nat.reduceLeDiff, Nat.sub_zero, h5.obj1])
      exact hk _ h5.drop.drop
    | true =>
      rw [hqt] at h5 hk
      cases hqb : quoteB way with
      | false =>
        rw [hqb] at h5 hk
        (try simp (maxSteps := 1000000) (dsimp := false) (disch := (first | omega | (simp only [okR]; done) | (simp only [sizeR] <;> omega) | fail)) only [↓preR, postR, ↓w_stop, Nat.reduceEqDiff, Nat.reduceAdd, Nat.reduceSub, Nat.reduceMul, Int.reduceNeg, Nat.reduceLT, Int.reduceToNat, Nat.reduceLeDiff, Nat.sub_zero, h5.obj, h5.obj1])
        exact hk _ h5.drop.drop
      | true =>
        rw [hqb] at h5 hk
        (try simp (maxSteps := 1000000) (dsimp := false) (disch := (first | omega | (simp only [okR]; done) | (simp only [sizeR] <;> omega) | fail)) only [↓preR, postR, ↓w_stop, Nat.reduceEqDiff, Nat.reduceAdd, Nat.reduceSub, Nat.reduceMul, Int.reduceNeg, Nat.reduceLT, Int.reduceToNat, Nat.reduceLeDiff, Nat.sub_zero, h5.obj, h5.obj1])
        exact hk _ h5.drop.drop
  clear hJ1
  by_cases k1 : kd = 1
  · rw [if_pos k1] at hk
    (try simp (maxSteps := 1000000) (dsimp := false) (disch := (first | omega | (simp only [okR]; done) | (simp only [sizeR] <;> omega) | fail)) only [↓preR, postR, ↓w_stop, Nat.reduceEqDiff, Nat.reduceAdd, Nat.reduceSub, Nat.reduceMul, Int.reduceNeg, Nat.reduceLT, Int.reduceToNat, Nat.reduceLeDiff, Nat.sub_zero, h4.obj1])
    refine join_now ?_
    cases hqt : qt with
    | false =>
      rw [hqt] at h4 hk
      (try simp (maxSteps := 1000000) (dsimp := false) (disch := (first | omega | (simp only [okR]; done) | (simp only [sizeR] <;> omega) | fail)) only [↓preR, postR, ↓w_stop, Nat.reduceEqDiff, Nat.reduceAdd, Nat.reduceSub, Nat.reduceMul, Int.reduceNeg, Nat.reduceLT, Int.reduceToNat, Nat.reduceLeDiff, Nat.sub_zero, h4.obj1])
      exact hk _ h4.drop.drop
    | true =>
      rw [hqt] at h4 hk hQ
      have hQ' : QuoteC X := hQ (by unfold hasQp; simp [k1])
      (try simp (maxSteps := 1000000) (dsimp := false) (disch := (first | omega | (simp only [okR]; done) | (simp only [sizeR] <;> omega) | fail)) only [↓preR, postR, ↓w_stop, Nat.reduceEqDiff, Nat.reduceAdd, Nat.reduceSub, Nat.reduceMul, Int.reduceNeg, Nat.reduceLT, Int.reduceToNat, Nat.reduceLeDiff, Nat.sub_zero, h4.obj, h4.obj1])
      exact lits_c hw (by omega) hQ' h4 fun s5 h5 => hk _ h5.drop.drop
  rw [if_neg k1] at hk
  by_cases k2 : kd = 2
  rotate_left
  · rw [if_neg k2] at hk
    by_cases k3 : kd = 3
    · rw [if_pos k3] at hk
      (try simp (maxSteps := 1000000) (dsimp := false) (disch := (first | omega | (simp only [okR]; done) | (simp only [sizeR] <;> omega) | fail)) only [↓preR, postR, ↓w_stop, Nat.reduceEqDiff, Nat.reduceAdd, Nat.reduceSub, Nat.reduceMul, Int.reduceNeg, Nat.reduceLT, Int.reduceToNat, Nat.reduceLeDiff, Nat.sub_zero, h4.obj1])
      refine tail1 _ _ ?_ hk h4
      simp only [List.length_append, List.length_cons, List.length_nil]; omega
    rw [if_neg k3] at hk
    by_cases k4 : kd = 4
    · rw [if_pos k4] at hk
      (try simp (maxSteps := 1000000) (dsimp := false) (disch := (first | omega | (simp only [okR]; done) | (simp only [sizeR] <;> omega) | fail)) only [↓preR, postR, ↓w_stop, Nat.reduceEqDiff, Nat.reduceAdd, Nat.reduceSub, Nat.reduceMul, Int.reduceNeg, Nat.reduceLT, Int.reduceToNat, Nat.reduceLeDiff, Nat.sub_zero, h4.obj1])
      refine tail1 _ _ ?_ hk h4
      simp only [List.length_append, List.length_cons, List.length_nil]; omega
    rw [if_neg k4] at hk
    (try simp (maxSteps := 1000000) (dsimp := false) (disch := (first | omega | (simp only [okR]; done) | (simp only [sizeR] <;> omega) | fail)) only [↓preR, postR, ↓w_stop, Nat.reduceEqDiff, Nat.reduceAdd, Nat.reduceSub, Nat.reduceMul, Int.reduceNeg, Nat.reduceLT, Int.reduceToNat, Nat.reduceLeDiff, Nat.sub_zero, h4.obj1])
    exact hk _ h4.drop.drop
  rw [if_pos k2] at hk
  (try simp (maxSteps := 1000000) (dsimp := false) (disch := (first | omega | (simp only [okR]; done) | (simp only [sizeR] <;> omega) | fail)) only [↓preR, postR, ↓w_stop, Nat.reduceEqDiff, Nat.reduceAdd, Nat.reduceSub, Nat.reduceMul, Int.reduceNeg, Nat.reduceLT, Int.reduceToNat, Nat.reduceLeDiff, Nat.sub_zero, h4.obj1])
  refine join_by fun J4 hJ4 => ?_
  have tail4 : J4 [.int .i64 (nextP qt op way)] s3 := by
    refine hJ4 _ _ ?_
    clear hJ4
    (try simp (maxSteps := 1000000) (dsimp := false) (disch := (first | omega | (simp only [okR]; done) | (simp only [sizeR] <;> omega) | fail)) only [↓preR, postR, ↓w_stop, Nat.reduceEqDiff, Nat.reduceAdd, Nat.reduceSub, Nat.reduceMul, Int.reduceNeg, Nat.reduceLT, Int.reduceToNat, Nat.reduceLeDiff, Nat.sub_zero, h4.obj1])
    refine join_by fun J5 hJ5 => ?_
    have tail5 : ∀ i0 : Str, i0 = (if op = 1 then [35] else []) ++ tx → J5 [.string (bs i0)] s3 := by
      intro i0 hi0
      have hi0l : i0.length ≤ 8001 := by
        rw [hi0, List.length_append]
        split <;> simp <;> omega
      refine hJ5 _ _ ?_
      clear hJ5
      (try simp (maxSteps := 1000000) (dsimp := false) (disch := (first | omega | (simp only [okR]; done) | (simp only [sizeR] <;> omega) | fail)) only [↓preR, postR, ↓w_stop, Nat.reduceEqDiff, Nat.reduceAdd, Nat.reduceSub, Nat.reduceMul, Int.reduceNeg, Nat.reduceLT, Int.reduceToNat, Nat.reduceLeDiff, Nat.sub_zero])
      refine join_by fun J6 hJ6 => ?_
      have tail6 : ∀ (i1 : Str) s5, i1 = (if op = 1 then [35] else []) ++ (tx ++ ((if cl = true then [58] else []) ++ (if 2 ≤ op ∧ op ≤ 9 then signP op ++ writtenW wd (nextP qt op way) else []))) → Hs s5 X (Cel st [.func (.func (stF way)) #[] #[], .bool (quoteB way), .bool (underB way)] :: Cel b [.int .i64 kd, .string (bs tx), .bool qt, .int .i64 op, .bool cl, .slice va vn vc] :: R) → J6 [.string (bs i1)] s5 := by
        intro i1 s5 hi1 h5
        have hi1l : i1.length ≤ 150000 := by
          have h2 := hwrl (nextP qt op way)
          have h3 := sign_len op
          rw [hi1]
          simp only [List.length_append]
          have e1 : (if op = 1 then ([35] : Str) else []).length ≤ 1 := by split <;> simp
          have e2 : (if cl = true then ([58] : Str) else []).length ≤ 1 := by split <;> simp
          have e3 : (if 2 ≤ op ∧ op ≤ 9 then signP op ++ writtenW wd (nextP qt op way) else []).length ≤ 2 + (writtenW wd (nextP qt op way)).length := by
            split
            · rw [List.length_append]; omega
            · simp
          omega
        refine hJ6 _ _ ?_
        clear hJ6
        by_cases ho : op < 0 ∨ 9 < op
        · rw [if_pos ho] at hk
          by_cases ho0 : op < 0
          · (try simp (maxSteps := 1000000) (dsimp := false) (disch := (first | omega | (simp only [okR]; done) | (simp only [sizeR] <;> omega) | fail)) only [↓preR, postR, ↓w_stop, Nat.reduceEqDiff, Nat.reduceAdd, Nat.reduceSub, Nat.reduceMul, Int.reduceNeg, Nat.reduceLT, Int.reduceToNat, Nat.reduceLeDiff, Nat.sub_zero, h5.obj1])
            exact hk _ h5.drop.drop
          · (try simp (maxSteps := 1000000) (dsimp := false) (disch := (first | omega | (simp only [okR]; done) | (simp only [sizeR] <;> omega) | fail)) only [↓preR, postR, ↓w_stop, Nat.reduceEqDiff, Nat.reduceAdd, Nat.reduceSub, Nat.reduceMul, Int.reduceNeg, Nat.reduceLT, Int.reduceToNat, Nat.reduceLeDiff, Nat.sub_zero, h5.obj1])
            exact hk _ h5.drop.drop
        · rw [if_neg ho] at hk
          (try simp (maxSteps := 1000000) (dsimp := false) (disch := (first | omega | (simp only [okR]; done) | (simp only [sizeR] <;> omega) | fail)) only [↓preR, postR, ↓w_stop, Nat.reduceEqDiff, Nat.reduceAdd, Nat.reduceSub, Nat.reduceMul, Int.reduceNeg, Nat.reduceLT, Int.reduceToNat, Nat.reduceLeDiff, Nat.sub_zero, h5.obj1])
          refine tail1 _ _ ?_ ?_ h5
          · simp only [List.length_append, List.length_cons, List.length_nil]; omega
          · have e : (if 2 ≤ op ∧ op ≤ 9 then signP op ++ writtenW wd (nextP qt op way) else []) = (if 2 ≤ op then signP op ++ writtenW wd (nextP qt op way) else []) := by
              by_cases h2 : 2 ≤ op
              · rw [if_pos ⟨h2, by omega⟩, if_pos h2]
              · rw [if_neg (fun h => h2 h.1), if_neg h2]
            rw [hi1, e]
            simpa using hk
      clear hJ6
      (try simp (maxSteps := 1000000) (dsimp := false) (disch := (first | omega | (simp only [okR]; done) | (simp only [sizeR] <;> omega) | fail)) only [↓preR, postR, ↓w_stop, Nat.reduceEqDiff, Nat.reduceAdd, Nat.reduceSub, Nat.reduceMul, Int.reduceNeg, Nat.reduceLT, Int.reduceToNat, Nat.reduceLeDiff, Nat.sub_zero, h4.obj1])
      refine f71 ?_
      have h6 : Hs _ X (Cel s3.n (ops8.map fun o => .int .i64 o.2) :: _) := h4.new
      have m6 := h6.obj2
      (try simp (maxSteps := 1000000) (dsimp := false) (disch := (first | omega | (simp only [okR]; done) | (simp only [sizeR] <;> omega) | fail)) only [↓preR, postR, ↓w_stop, Nat.reduceEqDiff, Nat.reduceAdd, Nat.reduceSub, Nat.reduceMul, Int.reduceNeg, Nat.reduceLT, Int.reduceToNat, Nat.reduceLeDiff, Nat.sub_zero, F71])
      generalize hs4 : AS.new s3 _ = s4
      have h6 : Hs s4 X (Cel s3.n (ops8.map fun o => .int .i64 o.2) :: Cel st [.func (.func (stF way)) #[] #[], .bool (quoteB way), .bool (underB way)] :: Cel b [.int .i64 kd, .string (bs tx), .bool qt, .int .i64 op, .bool cl, .slice va vn vc] :: R) := by rw [← hs4]; exact h6
      clear hs4 m6
      have e6 := h6.obj2
      (try simp (maxSteps := 1000000) (dsimp := false) (disch := (first | omega | (simp only [okR]; done) | (simp only [sizeR] <;> omega) | fail)) only [↓preR, postR, ↓w_stop, Nat.reduceEqDiff, Nat.reduceAdd, Nat.reduceSub, Nat.reduceMul, Int.reduceNeg, Nat.reduceLT, Int.reduceToNat, Nat.reduceLeDiff, Nat.sub_zero, e6])
      refine index_c h6 (fun j hj hjo => ?_) (fun hno => ?_)
      · obtain ⟨o1, o2, o3⟩ := ops_sign j hj
        have hj8 : j < 8 := hj
        rw [hjo] at o1 o2 o3
        (try simp (maxSteps := 1000000) (dsimp := false) (disch := (first | omega | (simp only [okR]; done) | (simp only [sizeR] <;> omega) | fail)) only [↓preR, postR, ↓w_stop, Nat.reduceEqDiff, Nat.reduceAdd, Nat.reduceSub, Nat.reduceMul, Int.reduceNeg, Nat.reduceLT, Int.reduceToNat, Nat.reduceLeDiff, Nat.sub_zero])
        refine join_by fun J7 hJ7 => ?_
        have tail7 : ∀ i2 : Str, i2 = i0 ++ (if cl = true then [58] else []) → J7 [.string (bs i2)] s4 := by
          intro i2 hi2
          have hi2l : i2.length ≤ 8002 := by
            rw [hi2, List.length_append]
            split <;> simp <;> omega
          refine hJ7 _ _ ?_
          clear hJ7
          (try simp (maxSteps := 1000000) (dsimp := false) (disch := (first | omega | (simp only [okR]; done) | (simp only [sizeR] <;> omega) | fail)) only [↓preR, postR, ↓w_stop, Nat.reduceEqDiff, Nat.reduceAdd, Nat.reduceSub, Nat.reduceMul, Int.reduceNeg, Nat.reduceLT, Int.reduceToNat, Nat.reduceLeDiff, Nat.sub_zero, e6])
          refine f69 ?_
          have h7 : Hs _ X (Cel s4.n (ops8.map fun o => .string (bs o.1)) :: _) := h6.new
          (try simp (maxSteps := 1000000) (dsimp := false) (disch := (first | omega | (simp only [okR]; done) | (simp only [sizeR] <;> omega) | fail)) only [↓preR, postR, ↓w_stop, Nat.reduceEqDiff, Nat.reduceAdd, Nat.reduceSub, Nat.reduceMul, Int.reduceNeg, Nat.reduceLT, Int.reduceToNat, Nat.reduceLeDiff, Nat.sub_zero, F69])
          generalize hs5 : AS.new s4 _ = s5
          have h7 : Hs s5 X (Cel s4.n (ops8.map fun o => .string (bs o.1)) :: Cel s3.n (ops8.map fun o => .int .i64 o.2) :: Cel st [.func (.func (stF way)) #[] #[], .bool (quoteB way), .bool (underB way)] :: Cel b [.int .i64 kd, .string (bs tx), .bool qt, .int .i64 op, .bool cl, .slice va vn vc] :: R) := by rw [← hs5]; exact h7
          clear hs5
          have e7 := h7.obj3
          have go1 : ([.string (bs [35, 35]), .string (bs [37, 37]), .string (bs [35]), .string (bs [37]), .string (bs [45]), .string (bs [61]), .string (bs [63]), .string (bs [43])] : List Value)[j]? = some (.string (bs (signP op))) := by
            rw [← o1]; exact (ops_get hj).1
          have go1' := (ops_get hj).1
          rw [o1] at go1'
          (try simp (maxSteps := 1000000) (dsimp := false) (disch := (first | omega | (simp only [okR]; done) | (simp only [sizeR] <;> omega) | fail)) only [↓preR, postR, ↓w_stop, Nat.reduceEqDiff, Nat.reduceAdd, Nat.reduceSub, Nat.reduceMul, Int.reduceNeg, Nat.reduceLT, Int.reduceToNat, Nat.reduceLeDiff, Nat.sub_zero, e7, h7.obj, go1, go1'])
          refine ih (way := nextP qt op way) hsz hwl (by unfold nextP; split <;> (try split) <;> omega) (fun hq => hQ (by unfold hasQp; simp [hq])) hxw h7 fun s6 h8 => ?_
          have hsl := sign_len op
          have hwl2 := hwrl (nextP qt op way)
          have m8 := h8.obj
          (try simp (maxSteps := 1000000) (dsimp := false) (disch := (first | omega | (simp only [okR]; done) | (simp only [sizeR] <;> omega) | fail)) only [↓preR, postR, ↓w_stop, Nat.reduceEqDiff, Nat.reduceAdd, Nat.reduceSub, Nat.reduceMul, Int.reduceNeg, Nat.reduceLT, Int.reduceToNat, Nat.reduceLeDiff, Nat.sub_zero, m8, go1'])
          refine tail6 _ _ ?_ h8.drop.drop
          have hcc : (2 ≤ op ∧ op ≤ 9) = True := eq_true ⟨o2, o3⟩
          simp only [hi2, hi0, hcc, if_true, List.append_assoc]
        clear hJ7
        cases hcl : cl with
        | true =>
          rw [hcl] at tail7 e6
          (try simp (maxSteps := 1000000) (dsimp := false) (disch := (first | omega | (simp only [okR]; done) | (simp only [sizeR] <;> omega) | fail)) only [↓preR, postR, ↓w_stop, Nat.reduceEqDiff, Nat.reduceAdd, Nat.reduceSub, Nat.reduceMul, Int.reduceNeg, Nat.reduceLT, Int.reduceToNat, Nat.reduceLeDiff, Nat.sub_zero, e6])
          exact tail7 _ rfl
        | false =>
          rw [hcl] at tail7 e6
          (try simp (maxSteps := 1000000) (dsimp := false) (disch := (first | omega | (simp only [okR]; done) | (simp only [sizeR] <;> omega) | fail)) only [↓preR, postR, ↓w_stop, Nat.reduceEqDiff, Nat.reduceAdd, Nat.reduceSub, Nat.reduceMul, Int.reduceNeg, Nat.reduceLT, Int.reduceToNat, Nat.reduceLeDiff, Nat.sub_zero, e6])
          exact tail7 _ (by simp)
      · have hno' := ops_none hno
        have hcond : ¬ (2 ≤ op ∧ op ≤ 9) := by omega
        rw [if_neg hcond] at tail6
        cases hcl : cl with
        | true =>
          rw [hcl] at tail6 e6 h6
          (try simp (maxSteps := 1000000) (dsimp := false) (disch := (first | omega | (simp only [okR]; done) | (simp only [sizeR] <;> omega) | fail)) only [↓preR, postR, ↓w_stop, Nat.reduceEqDiff, Nat.reduceAdd, Nat.reduceSub, Nat.reduceMul, Int.reduceNeg, Nat.reduceLT, Int.reduceToNat, Nat.reduceLeDiff, Nat.sub_zero, e6])
          exact tail6 _ _ (by rw [hi0]; simp) h6.drop
        | false =>
          rw [hcl] at tail6 e6 h6
          (try simp (maxSteps := 1000000) (dsimp := false) (disch := (first | omega | (simp only [okR]; done) | (simp only [sizeR] <;> omega) | fail)) only [↓preR, postR, ↓w_stop, Nat.reduceEqDiff, Nat.reduceAdd, Nat.reduceSub, Nat.reduceMul, Int.reduceNeg, Nat.reduceLT, Int.reduceToNat, Nat.reduceLeDiff, Nat.sub_zero, e6])
          exact tail6 _ _ (by rw [hi0]; simp) h6.drop
    clear hJ5
    by_cases ho1 : op = 1
    · rw [if_pos ho1] at tail5
      (try simp (maxSteps := 1000000) (dsimp := false) (disch := (first | omega | (simp only [okR]; done) | (simp only [sizeR] <;> omega) | fail)) only [↓preR, postR, ↓w_stop, Nat.reduceEqDiff, Nat.reduceAdd, Nat.reduceSub, Nat.reduceMul, Int.reduceNeg, Nat.reduceLT, Int.reduceToNat, Nat.reduceLeDiff, Nat.sub_zero, h4.obj1])
      exact tail5 _ rfl
    · rw [if_neg ho1] at tail5
      (try simp (maxSteps := 1000000) (dsimp := false) (disch := (first | omega | (simp only [okR]; done) | (simp only [sizeR] <;> omega) | fail)) only [↓preR, postR, ↓w_stop, Nat.reduceEqDiff, Nat.reduceAdd, Nat.reduceSub, Nat.reduceMul, Int.reduceNeg, Nat.reduceLT, Int.reduceToNat, Nat.reduceLeDiff, Nat.sub_zero, h4.obj1])
      exact tail5 _ rfl
  clear hJ4
  unfold nextP at tail4
  cases hqt : qt with
  | true =>
    rw [hqt] at tail4 h4
    simp only [Bool.true_or, if_true] at tail4
    by_cases h6 : 6 ≤ op
    · rw [if_pos h6] at tail4
      (try simp (maxSteps := 1000000) (dsimp := false) (disch := (first | omega | (simp only [okR]; done) | (simp only [sizeR] <;> omega) | fail)) only [↓preR, postR, ↓w_stop, Nat.reduceEqDiff, Nat.reduceAdd, Nat.reduceSub, Nat.reduceMul, Int.reduceNeg, Nat.reduceLT, Int.reduceToNat, Nat.reduceLeDiff, Nat.sub_zero, h4.obj1])
      exact tail4
    · rw [if_neg h6] at tail4
      (try simp (maxSteps := 1000000) (dsimp := false) (disch := (first | omega | (simp only [okR]; done) | (simp only [sizeR] <;> omega) | fail)) only [↓preR, postR, ↓w_stop, Nat.reduceEqDiff, Nat.reduceAdd, Nat.reduceSub, Nat.reduceMul, Int.reduceNeg, Nat.reduceLT, Int.reduceToNat, Nat.reduceLeDiff, Nat.sub_zero, h4.obj1])
      exact tail4
  | false =>
    rw [hqt] at tail4 h4
    simp only [Bool.false_or] at tail4
    cases hub : underB way with
    | true =>
      rw [hub] at tail4 h4
      simp only [if_true] at tail4
      by_cases h6 : 6 ≤ op
      · rw [if_pos h6] at tail4
        (try simp (maxSteps := 1000000) (dsimp := false) (disch := (first | omega | (simp only [okR]; done) | (simp only [sizeR] <;> omega) | fail)) only [↓preR, postR, ↓w_stop, Nat.reduceEqDiff, Nat.reduceAdd, Nat.reduceSub, Nat.reduceMul, Int.reduceNeg, Nat.reduceLT, Int.reduceToNat, Nat.reduceLeDiff, Nat.sub_zero, h4.obj, h4.obj1])
        exact tail4
      · rw [if_neg h6] at tail4
        (try simp (maxSteps := 1000000) (dsimp := false) (disch := (first | omega | (simp only [okR]; done) | (simp only [sizeR] <;> omega) | fail)) only [↓preR, postR, ↓w_stop, Nat.reduceEqDiff, Nat.reduceAdd, Nat.reduceSub, Nat.reduceMul, Int.reduceNeg, Nat.reduceLT, Int.reduceToNat, Nat.reduceLeDiff, Nat.sub_zero, h4.obj, h4.obj1])
        exact tail4
    | false =>
      rw [hub] at tail4 h4
      simp only [Bool.false_eq_true, if_false] at tail4
      (try simp (maxSteps := 1000000) (dsimp := false) (disch := (first | omega | (simp only [okR]; done) | (simp only [sizeR] <;> omega) | fail)) only [↓preR, postR, ↓w_stop, Nat.reduceEqDiff, Nat.reduceAdd, Nat.reduceSub, Nat.reduceMul, Int.reduceNeg, Nat.reduceLT, Int.reduceToNat, Nat.reduceLeDiff, Nat.sub_zero, h4.obj, h4.obj1])
      exact tail4
theorem written_c : ∀ n, WrC n := by
  intro n
  induction n with
  | zero => intro σ X R k w v way hn; omega
  | succ n ih =>
    intro σ X R k w v way hn hsz hw hQ hv h hk
    obtain ⟨a, b, o, cap, rfl, hc, hm, hat⟩ := pts_at hv
    unfold maxLen at hm
    have hwl := written_len w way
    refine f33 ?_
    have h1 := Bd.new h
    (try simp (maxSteps := 1000000) (dsimp := false) (disch := (first | omega | (simp only [okR]; done) | (simp only [sizeR] <;> omega) | fail)) only [↓preR, postR, ↓w_stop, Nat.reduceEqDiff, Nat.reduceAdd, Nat.reduceSub, Nat.reduceMul, Int.reduceNeg, Nat.reduceLT, Int.reduceToNat, Nat.reduceLeDiff, Nat.sub_zero, F33])
    generalize AS.new σ _ = s1 at h1 ⊢
    generalize σ.n = p at h1 ⊢
    refine join_by fun J1 hJ1 => ?_
    have tail : ∀ s2, Hs s2 X (Bd p (writtenW w way) :: R) → J1 [] s2 := by
      intro s2 h2
      refine hJ1 _ _ ?_
      (try simp (maxSteps := 1000000) (dsimp := false) (disch := (first | omega | (simp only [okR]; done) | (simp only [sizeR] <;> omega) | fail)) only [↓preR, postR, ↓w_stop, Nat.reduceEqDiff, Nat.reduceAdd, Nat.reduceSub, Nat.reduceMul, Int.reduceNeg, Nat.reduceLT, Int.reduceToNat, Nat.reduceLeDiff, Nat.sub_zero])
      refine bstr_c h2 (by omega) fun s3 h3 => ?_
      (try simp (maxSteps := 1000000) (dsimp := false) (disch := (first | omega | (simp only [okR]; done) | (simp only [sizeR] <;> omega) | fail)) only [↓preR, postR, ↓w_stop, Nat.reduceEqDiff, Nat.reduceAdd, Nat.reduceSub, Nat.reduceMul, Int.reduceNeg, Nat.reduceLT, Int.reduceToNat, Nat.reduceLeDiff, Nat.sub_zero])
      exact hk _ h3
    clear hJ1
    (try simp (maxSteps := 1000000) (dsimp := false) (disch := (first | omega | (simp only [okR]; done) | (simp only [sizeR] <;> omega) | fail)) only [↓preR, postR, ↓w_stop, Nat.reduceEqDiff, Nat.reduceAdd, Nat.reduceSub, Nat.reduceMul, Int.reduceNeg, Nat.reduceLT, Int.reduceToNat, Nat.reduceLeDiff, Nat.sub_zero])
    refine loop_inv (fun nn xs s2 => ∃ j : Nat, xs = [.int .i64 j] ∧ j ≤ w.length ∧ Hs s2 X (Bd p (writtenW (w.take j) way) :: R) ∧ nn = w.length - j) _ ⟨0, rfl, Nat.zero_le _, by simpa [writtenW] using h1, rfl⟩ ?_
    rintro _ _ s2 again ⟨j, rfl, hj, h2, rfl⟩ hag
    (try simp (maxSteps := 1000000) (dsimp := false) (disch := (first | omega | (simp only [okR]; done) | (simp only [sizeR] <;> omega) | fail)) only [↓preR, postR, ↓w_stop, Nat.reduceEqDiff, Nat.reduceAdd, Nat.reduceSub, Nat.reduceMul, Int.reduceNeg, Nat.reduceLT, Int.reduceToNat, Nat.reduceLeDiff, Nat.sub_zero])
    refine join_now ?_
    by_cases hlt : j < w.length
    · have hwt := wr_take w j way hlt
      have hwt2 := wr_len_take w j way
      obtain ⟨rfl, u, g0, g1, g2, g3, g4, c0, c1, c2, c3, c4, c5⟩ := hat j hlt
      have hszl := sz_get w j hlt
      have hql := hasQ_get w j hlt
      generalize w[j] = x at *
      have hszx := szPt_word x
      have hpl := part_len x way
      obtain ⟨va, vn, vc, rfl⟩ := g0.val
      have d0 := h2.ldx c0
      have d1 := h2.ldx c1
      have d2 := h2.ldx c2
      have d3 := h2.ldx c3
      have d4 := h2.ldx c4
      have d5 := h2.ldx c5
      (try simp (maxSteps := 1000000) (dsimp := false) (disch := (first | omega | (simp only [okR]; done) | (simp only [sizeR] <;> omega) | fail)) only [↓preR, postR, ↓w_stop, Nat.reduceEqDiff, Nat.reduceAdd, Nat.reduceSub, Nat.reduceMul, Int.reduceNeg, Nat.reduceLT, Int.reduceToNat, Nat.reduceLeDiff, Nat.sub_zero])
      refine join_now ?_
      have h3 := h2.new (cs := [.int .i64 0, .string (bs []), .bool false, .int .i64 0, .bool false, .slice none 0 0])
      have h4 := h3.put (cs' := ptC x (.slice va vn vc))
      (try simp (maxSteps := 1000000) (dsimp := false) (disch := (first | omega | (simp only [okR]; done) | (simp only [sizeR] <;> omega) | fail)) only [↓preR, postR, ↓w_stop, Nat.reduceEqDiff, Nat.reduceAdd, Nat.reduceSub, Nat.reduceMul, Int.reduceNeg, Nat.reduceLT, Int.reduceToNat, Nat.reduceLeDiff, Nat.sub_zero, d0, d1, d2, d3, d4, d5, h3.obj, h4.obj])
      refine part_c ih g0 (by omega) (by omega) hw (fun hq => hQ (hql hq)) h4 fun s4 h5 => ?_
      (try simp (maxSteps := 1000000) (dsimp := false) (disch := (first | omega | (simp only [okR]; done) | (simp only [sizeR] <;> omega) | fail)) only [↓preR, postR, ↓w_stop, Nat.reduceEqDiff, Nat.reduceAdd, Nat.reduceSub, Nat.reduceMul, Int.reduceNeg, Nat.reduceLT, Int.reduceToNat, Nat.reduceLeDiff, Nat.sub_zero])
      refine wrs_c h5.drop (by omega) fun v s5 h6 => ?_
      (try simp (maxSteps := 1000000) (dsimp := false) (disch := (first | omega | (simp only [okR]; done) | (simp only [sizeR] <;> omega) | fail)) only [↓preR, postR, ↓w_stop, Nat.reduceEqDiff, Nat.reduceAdd, Nat.reduceSub, Nat.reduceMul, Int.reduceNeg, Nat.reduceLT, Int.reduceToNat, Nat.reduceLeDiff, Nat.sub_zero])
      rw [← hwt] at h6
      exact hag _ _ _ ⟨j + 1, rfl, hlt, h6, rfl⟩ (by omega)
    · (try simp (maxSteps := 1000000) (dsimp := false) (disch := (first | omega | (simp only [okR]; done) | (simp only [sizeR] <;> omega) | fail)) only [↓preR, postR, ↓w_stop, Nat.reduceEqDiff, Nat.reduceAdd, Nat.reduceSub, Nat.reduceMul, Int.reduceNeg, Nat.reduceLT, Int.reduceToNat, Nat.reduceLeDiff, Nat.sub_zero])
      rw [List.take_of_length_le (by omega)] at h2
      exact tail s2 h2
/-- A word, printed; the text has the same parts again, or it can't be. -/
def printW (w : List Pt) (way : Nat) : Str × Int := match wordW (writtenW w way) way with
  | .ok v => if eqW v w = true then (writtenW w way, 0) else ([], 1)
  | .bad _ => ([], 1)
abbrev prV (p : Str × Int) : Value := .tuple #[.string (bs p.1), .int .i64 p.2]
theorem print_c {w : List Pt} {v : Value} (hsz : szW w ≤ 8000) (hQ : hasQ w = true → QuoteC X) (hv : RepL X v w) (h : Hs σ X R) (hk : ∀ X' σ', Ce.le X X' → Hs σ' X' R → k (prV (printW w 0)) σ') : kCall Tryz.prog 12 [v] σ k := by
  have hwl := written_len w 0
  refine f12 ?_
  (try simp (maxSteps := 1000000) (dsimp := false) (disch := (first | omega | (simp only [okR]; done) | (simp only [sizeR] <;> omega) | fail)) only [↓preR, postR, ↓w_stop, Nat.reduceEqDiff, Nat.reduceAdd, Nat.reduceSub, Nat.reduceMul, Int.reduceNeg, Nat.reduceLT, Int.reduceToNat, Nat.reduceLeDiff, Nat.sub_zero, F12])
  refine f20 ?_
  (try simp (maxSteps := 1000000) (dsimp := false) (disch := (first | omega | (simp only [okR]; done) | (simp only [sizeR] <;> omega) | fail)) only [↓preR, postR, ↓w_stop, Nat.reduceEqDiff, Nat.reduceAdd, Nat.reduceSub, Nat.reduceMul, Int.reduceNeg, Nat.reduceLT, Int.reduceToNat, Nat.reduceLeDiff, Nat.sub_zero, F20])
  refine written_c _ (way := 0) (Nat.lt_succ_self _) hsz (by omega) hQ hv h fun s1 h1 => ?_
  (try simp (maxSteps := 1000000) (dsimp := false) (disch := (first | omega | (simp only [okR]; done) | (simp only [sizeR] <;> omega) | fail)) only [↓preR, postR, ↓w_stop, Nat.reduceEqDiff, Nat.reduceAdd, Nat.reduceSub, Nat.reduceMul, Int.reduceNeg, Nat.reduceLT, Int.reduceToNat, Nat.reduceLeDiff, Nat.sub_zero])
  refine ⟨k6_ok, ?_⟩
  refine parse_c (s := writtenW w 0) h1 ?_ (by unfold maxLen; omega)
  unfold printW at hk
  have hbad : ∀ e, wordW (writtenW w 0) 0 = .bad e → ¬ e = 0 := by
    intro e he
    unfold wordW at he
    split at he
    · cases he; decide
    · exact rd_ne _ _ _ _ _ (by omega) he
  cases hp : wordW (writtenW w 0) 0 with
  | bad e =>
    rw [hp] at hk
    have he := hbad e hp
    intro X' s2 hX h2
    (try simp (maxSteps := 1000000) (dsimp := false) (disch := (first | omega | (simp only [okR]; done) | (simp only [sizeR] <;> omega) | fail)) only [↓preR, postR, ↓w_stop, Nat.reduceEqDiff, Nat.reduceAdd, Nat.reduceSub, Nat.reduceMul, Int.reduceNeg, Nat.reduceLT, Int.reduceToNat, Nat.reduceLeDiff, Nat.sub_zero])
    refine join_now ?_
    (try simp (maxSteps := 1000000) (dsimp := false) (disch := (first | omega | (simp only [okR]; done) | (simp only [sizeR] <;> omega) | fail)) only [↓preR, postR, ↓w_stop, Nat.reduceEqDiff, Nat.reduceAdd, Nat.reduceSub, Nat.reduceMul, Int.reduceNeg, Nat.reduceLT, Int.reduceToNat, Nat.reduceLeDiff, Nat.sub_zero, he])
    exact hk X' _ hX h2
  | ok u =>
    rw [hp] at hk
    simp only at hk
    intro X' vv s2 hX hvv h2
    (try simp (maxSteps := 1000000) (dsimp := false) (disch := (first | omega | (simp only [okR]; done) | (simp only [sizeR] <;> omega) | fail)) only [↓preR, postR, ↓w_stop, Nat.reduceEqDiff, Nat.reduceAdd, Nat.reduceSub, Nat.reduceMul, Int.reduceNeg, Nat.reduceLT, Int.reduceToNat, Nat.reduceLeDiff, Nat.sub_zero])
    refine join_now ?_
    (try simp (maxSteps := 1000000) (dsimp := false) (disch := (first | omega | (simp only [okR]; done) | (simp only [sizeR] <;> omega) | fail)) only [↓preR, postR, ↓w_stop, Nat.reduceEqDiff, Nat.reduceAdd, Nat.reduceSub, Nat.reduceMul, Int.reduceNeg, Nat.reduceLT, Int.reduceToNat, Nat.reduceLeDiff, Nat.sub_zero])
    refine same_c _ (Nat.lt_succ_self _) hvv (hv.mono hX) h2 fun s3 h3 => ?_
    cases he : eqW u w with
    | true =>
      rw [he] at hk
      (try simp (maxSteps := 1000000) (dsimp := false) (disch := (first | omega | (simp only [okR]; done) | (simp only [sizeR] <;> omega) | fail)) only [↓preR, postR, ↓w_stop, Nat.reduceEqDiff, Nat.reduceAdd, Nat.reduceSub, Nat.reduceMul, Int.reduceNeg, Nat.reduceLT, Int.reduceToNat, Nat.reduceLeDiff, Nat.sub_zero])
      exact hk X' _ hX h3
    | false =>
      rw [he] at hk
      (try simp (maxSteps := 1000000) (dsimp := false) (disch := (first | omega | (simp only [okR]; done) | (simp only [sizeR] <;> omega) | fail)) only [↓preR, postR, ↓w_stop, Nat.reduceEqDiff, Nat.reduceAdd, Nat.reduceSub, Nat.reduceMul, Int.reduceNeg, Nat.reduceLT, Int.reduceToNat, Nat.reduceLeDiff, Nat.sub_zero])
      exact hk X' _ hX h3
end
end Go.Proofs.YtmgdkoidgoihfaaGreatDoor
