/- A word without its quotes. Conditions: as each theorem says. -/
import Derived.Test.YtgijohcmkipkhaaDoorLxG
import Derived.Test.YtgijohcmkipkhaaDoorBd
namespace Go.Proofs.YtgijohcmkipkhaaDoor
open E Go.Lib
set_option linter.unusedVariables false
set_option linter.unusedSimpArgs false
set_option maxHeartbeats 1000000
set_option maxRecDepth 20000

theorem bareP_nil (f : Nat) (q : Bool) : bareP f q [] = [] := by cases f <;> rfl
theorem bareP_one (f : Nat) (q : Bool) (c : UInt8) : bareP (f + 1) q [c] = if c = 34 then [] else [c] := rfl
theorem bareP_two (f : Nat) (q : Bool) (c x : UInt8) (r : Str) : bareP (f + 1) q (c :: x :: r) =
        if c = 92 then (if (q && !([36, 34, 92, 96, 10] : Str).contains x) = true then [92] else []) ++ ((if x = 10 then [] else [x]) ++ bareP f q r)
        else if c = 34 then bareP f (!q) (x :: r)
        else if c = 39 ∧ q = false then
          (match posB 39 (x :: r) with
          | none => c :: bareP f q (x :: r)
          | some n => (x :: r).take n ++ bareP f q ((x :: r).drop (n + 1)))
        else c :: bareP f q (x :: r) := rfl
theorem bareP_len : ∀ (f : Nat) (q : Bool) (l : Str), (bareP f q l).length ≤ l.length
  | 0, _, _ => Nat.zero_le _
  | f + 1, q, [] => Nat.zero_le _
  | f + 1, q, [c] => by rw [bareP_one]; split <;> simp
  | f + 1, q, c :: x :: r => by
    rw [bareP_two]
    have h1 := bareP_len f q r
    have h2 := bareP_len f (!q) (x :: r)
    have h3 := bareP_len f q (x :: r)
    simp only [List.length_cons] at h2 h3
    split
    · have e1 : (if (q && !([36, 34, 92, 96, 10] : Str).contains x) = true then ([92] : Str) else []).length ≤ 1 := by split <;> simp
      have e2 : (if x = 10 then ([] : Str) else [x]).length ≤ 1 := by split <;> simp
      simp only [List.length_append, List.length_cons]
      omega
    split
    · simp only [List.length_cons]; omega
    split
    · split
      · simp only [List.length_cons]; omega
      · rename_i n hp
        have h4 := bareP_len f q ((x :: r).drop (n + 1))
        have h5 := pos_lt hp
        simp only [List.length_append, List.length_take, List.length_drop, List.length_cons] at h4 h5 ⊢
        omega
    · simp only [List.length_cons]; omega
section
variable {σ σ' : AS} {X : Ce} {R : List Ck} {k : Value → AS → Prop} {s pre set w : Str} {c : UInt8} {i : Nat}
theorem bare_c (hw : w.length ≤ 1000000) (h : Hs σ X R) (hk : ∀ σ', Hs σ' X R → k (.string (bs (bareP (w.length + 1) false w))) σ') : kCall Tryd.prog 38 [.string (bs w)] σ k := by
  refine f38 ?_
  have h1 := Bd.new h
  (try simp (maxSteps := 1000000) (dsimp := false) (disch := (first | omega | (simp only [okR]; done) | (simp only [sizeR] <;> omega) | fail)) only [↓preR, postR, ↓w_stop, Nat.reduceEqDiff, Nat.reduceAdd, Nat.reduceSub, Nat.reduceMul, Int.reduceNeg, Nat.reduceLT, Int.reduceToNat, Nat.reduceLeDiff, Nat.sub_zero, F38])
  generalize AS.new σ _ = s1 at h1 ⊢
  generalize σ.n = p at h1 ⊢
  have hbl := bareP_len (w.length + 1) false w
  generalize hB : bareP (w.length + 1) false w = B at hk hbl
  refine join_now ?_
  refine loop_inv (fun nn xs s2 => ∃ (q : Bool) (i f : Nat) (acc : Str), xs = [.bool q, .int .i64 i] ∧ i ≤ w.length ∧ w.length - i < f ∧ Hs s2 X (Bd p acc :: R) ∧ acc ++ bareP f q (w.drop i) = B ∧ nn = w.length - i) _
    ⟨false, 0, w.length + 1, [], rfl, Nat.zero_le _, by omega, h1, hB, rfl⟩ ?_
  rintro _ _ s2 again ⟨q, i, f, acc, rfl, hi, hf, h2, hacc, rfl⟩ hag
  have hal : acc.length ≤ w.length := by rw [← hacc] at hbl; simp at hbl; omega
  (try simp (maxSteps := 1000000) (dsimp := false) (disch := (first | omega | (simp only [okR]; done) | (simp only [sizeR] <;> omega) | fail)) only [↓preR, postR, ↓w_stop, Nat.reduceEqDiff, Nat.reduceAdd, Nat.reduceSub, Nat.reduceMul, Int.reduceNeg, Nat.reduceLT, Int.reduceToNat, Nat.reduceLeDiff, Nat.sub_zero])
  refine join_now ?_
  by_cases hlt : i < w.length
  rotate_left
  · rw [List.drop_of_length_le (by omega), bareP_nil, List.append_nil] at hacc
    subst hacc
    (try simp (maxSteps := 1000000) (dsimp := false) (disch := (first | omega | (simp only [okR]; done) | (simp only [sizeR] <;> omega) | fail)) only [↓preR, postR, ↓w_stop, Nat.reduceEqDiff, Nat.reduceAdd, Nat.reduceSub, Nat.reduceMul, Int.reduceNeg, Nat.reduceLT, Int.reduceToNat, Nat.reduceLeDiff, Nat.sub_zero])
    refine bstr_c h2 (by omega) fun s3 h3 => ?_
    (try simp (maxSteps := 1000000) (dsimp := false) (disch := (first | omega | (simp only [okR]; done) | (simp only [sizeR] <;> omega) | fail)) only [↓preR, postR, ↓w_join, Nat.reduceEqDiff, Nat.reduceAdd, Nat.reduceSub, Nat.reduceMul, Int.reduceNeg, Nat.reduceLT, Int.reduceToNat, Nat.reduceLeDiff, Nat.sub_zero])
    exact hk _ h3
  obtain ⟨f, rfl⟩ : ∃ g, f = g + 1 := ⟨f - 1, by omega⟩
  rw [drop_c hlt] at hacc
  (try simp (maxSteps := 1000000) (dsimp := false) (disch := (first | omega | (simp only [okR]; done) | (simp only [sizeR] <;> omega) | fail)) only [↓preR, postR, ↓w_stop, Nat.reduceEqDiff, Nat.reduceAdd, Nat.reduceSub, Nat.reduceMul, Int.reduceNeg, Nat.reduceLT, Int.reduceToNat, Nat.reduceLeDiff, Nat.sub_zero])
  refine join_by fun J hJ => ?_
  have tail : ∀ (s3 : AS) (q' : Bool) (i' f' : Nat) (acc' : Str), i ≤ i' → i' + 1 ≤ w.length → w.length - (i' + 1) < f' → Hs s3 X (Bd p acc' :: R) → acc' ++ bareP f' q' (w.drop (i' + 1)) = B → J [.bool q', .int .i64 i'] s3 := by
    intro s3 q' i' f' acc' h0 h1 h2 h3 h4
    refine hJ _ _ ?_
    (try simp (maxSteps := 1000000) (dsimp := false) (disch := (first | omega | (simp only [okR]; done) | (simp only [sizeR] <;> omega) | fail)) only [↓preR, postR, ↓w_stop, Nat.reduceEqDiff, Nat.reduceAdd, Nat.reduceSub, Nat.reduceMul, Int.reduceNeg, Nat.reduceLT, Int.reduceToNat, Nat.reduceLeDiff, Nat.sub_zero])
    exact hag _ _ _ ⟨q', i' + 1, f', acc', rfl, h1, h2, h3, h4, rfl⟩ (by omega)
  clear hJ
  have tt : ∀ (x : UInt8) (n : Int), n = x.toNat → w[i] = x → (((w[i].toNat : Nat) : Int) = n) = True := fun x n hn h => eq_true (by rw [hn, h])
  have ff : ∀ (x : UInt8) (n : Int), n = x.toNat → ¬ w[i] = x → (((w[i].toNat : Nat) : Int) = n) = False := fun x n hn h => eq_false (fun h' => h (UInt8.toNat_inj.1 (by omega)))
  have plain : bareP (f + 1) q (w[i] :: w.drop (i + 1)) = w[i] :: bareP f q (w.drop (i + 1)) → ∀ k2, (∀ v s4, Hs s4 X (Bd p (acc ++ [w[i]]) :: R) → k2 v s4) → kCall Tryd.prog 53 [.pointer (some ⟨p, 0, none⟩), .int .u8 (w[i].toNat : Int)] s2 k2 := by
    intro _ k2 hk2
    exact wrb_c rfl h2 (by omega) hk2
  have fin : bareP (f + 1) q (w[i] :: w.drop (i + 1)) = w[i] :: bareP f q (w.drop (i + 1)) → ∀ s4, Hs s4 X (Bd p (acc ++ [w[i]]) :: R) → J [.bool q, .int .i64 i] s4 := by
    intro e s4 h4
    refine tail s4 q i f _ (Nat.le_refl _) (by omega) (by omega) h4 ?_
    rw [← hacc, e]; simp
  (try simp (maxSteps := 1000000) (dsimp := false) (disch := (first | omega | (simp only [okR]; done) | (simp only [sizeR] <;> omega) | fail)) only [↓preR, postR, ↓w_stop, Nat.reduceEqDiff, Nat.reduceAdd, Nat.reduceSub, Nat.reduceMul, Int.reduceNeg, Nat.reduceLT, Int.reduceToNat, Nat.reduceLeDiff, Nat.sub_zero, getd hlt])
  refine grd_and (b := decide (((i : Int) + 1) < (w.length : Int))) (fun _ k' hk' => ?_) ?_
  · (try simp (maxSteps := 1000000) (dsimp := false) (disch := (first | omega | (simp only [okR]; done) | (simp only [sizeR] <;> omega) | fail)) only [↓preR, postR, ↓w_stop, Nat.reduceEqDiff, Nat.reduceAdd, Nat.reduceSub, Nat.reduceMul, Int.reduceNeg, Nat.reduceLT, Int.reduceToNat, Nat.reduceLeDiff, Nat.sub_zero])
    exact hk'
  by_cases hlt2 : i + 1 < w.length
  rotate_left
  · -- the last byte
    have e0 : w.drop (i + 1) = [] := List.drop_of_length_le (by omega)
    have ed : decide (((i : Int) + 1) < (w.length : Int)) = false := by simp; omega
    rw [ed, Bool.and_false]
    rw [e0] at fin plain hacc
    rw [bareP_one] at hacc fin plain
    rw [bareP_nil] at fin plain
    by_cases c2 : w[i] = 34
    · rw [if_pos c2, List.append_nil] at hacc
      (try simp (maxSteps := 1000000) (dsimp := false) (disch := (first | omega | (simp only [okR]; done) | (simp only [sizeR] <;> omega) | fail)) only [↓preR, postR, ↓w_stop, Nat.reduceEqDiff, Nat.reduceAdd, Nat.reduceSub, Nat.reduceMul, Int.reduceNeg, Nat.reduceLT, Int.reduceToNat, Nat.reduceLeDiff, Nat.sub_zero, tt 34 34 rfl c2])
      exact tail s2 (!q) i f acc (Nat.le_refl _) (by omega) (by omega) h2 (by rw [e0, bareP_nil, List.append_nil]; exact hacc)
    · rw [if_neg c2] at fin plain
      (try simp (maxSteps := 1000000) (dsimp := false) (disch := (first | omega | (simp only [okR]; done) | (simp only [sizeR] <;> omega) | fail)) only [↓preR, postR, ↓w_stop, Nat.reduceEqDiff, Nat.reduceAdd, Nat.reduceSub, Nat.reduceMul, Int.reduceNeg, Nat.reduceLT, Int.reduceToNat, Nat.reduceLeDiff, Nat.sub_zero, ff 34 34 rfl c2])
      refine grd_and (b := !q) (fun _ k' hk' => ?_) ?_
      · (try simp (maxSteps := 1000000) (dsimp := false) (disch := (first | omega | (simp only [okR]; done) | (simp only [sizeR] <;> omega) | fail)) only [↓preR, postR, ↓w_stop, Nat.reduceEqDiff, Nat.reduceAdd, Nat.reduceSub, Nat.reduceMul, Int.reduceNeg, Nat.reduceLT, Int.reduceToNat, Nat.reduceLeDiff, Nat.sub_zero])
        exact hk'
      generalize (decide ((w[i].toNat : Int) = 39) && !q) = b3
      cases b3 with
      | true =>
        (try simp (maxSteps := 1000000) (dsimp := false) (disch := (first | omega | (simp only [okR]; done) | (simp only [sizeR] <;> omega) | fail)) only [↓preR, postR, ↓w_stop, Nat.reduceEqDiff, Nat.reduceAdd, Nat.reduceSub, Nat.reduceMul, Int.reduceNeg, Nat.reduceLT, Int.reduceToNat, Nat.reduceLeDiff, Nat.sub_zero, drop_all, e0])
        refine idx_c (c := 39) rfl ?_
        (try simp (maxSteps := 1000000) (dsimp := false) (disch := (first | omega | (simp only [okR]; done) | (simp only [sizeR] <;> omega) | fail)) only [↓preR, postR, ↓w_stop, Nat.reduceEqDiff, Nat.reduceAdd, Nat.reduceSub, Nat.reduceMul, Int.reduceNeg, Nat.reduceLT, Int.reduceToNat, Nat.reduceLeDiff, Nat.sub_zero, posB])
        refine join_now ?_
        (try simp (maxSteps := 1000000) (dsimp := false) (disch := (first | omega | (simp only [okR]; done) | (simp only [sizeR] <;> omega) | fail)) only [↓preR, postR, ↓w_stop, Nat.reduceEqDiff, Nat.reduceAdd, Nat.reduceSub, Nat.reduceMul, Int.reduceNeg, Nat.reduceLT, Int.reduceToNat, Nat.reduceLeDiff, Nat.sub_zero])
        refine plain rfl _ fun v s4 h4 => ?_
        (try simp (maxSteps := 1000000) (dsimp := false) (disch := (first | omega | (simp only [okR]; done) | (simp only [sizeR] <;> omega) | fail)) only [↓preR, postR, ↓w_stop, Nat.reduceEqDiff, Nat.reduceAdd, Nat.reduceSub, Nat.reduceMul, Int.reduceNeg, Nat.reduceLT, Int.reduceToNat, Nat.reduceLeDiff, Nat.sub_zero])
        exact fin rfl s4 h4
      | false =>
        (try simp (maxSteps := 1000000) (dsimp := false) (disch := (first | omega | (simp only [okR]; done) | (simp only [sizeR] <;> omega) | fail)) only [↓preR, postR, ↓w_stop, Nat.reduceEqDiff, Nat.reduceAdd, Nat.reduceSub, Nat.reduceMul, Int.reduceNeg, Nat.reduceLT, Int.reduceToNat, Nat.reduceLeDiff, Nat.sub_zero])
        refine plain rfl _ fun v s4 h4 => ?_
        (try simp (maxSteps := 1000000) (dsimp := false) (disch := (first | omega | (simp only [okR]; done) | (simp only [sizeR] <;> omega) | fail)) only [↓preR, postR, ↓w_stop, Nat.reduceEqDiff, Nat.reduceAdd, Nat.reduceSub, Nat.reduceMul, Int.reduceNeg, Nat.reduceLT, Int.reduceToNat, Nat.reduceLeDiff, Nat.sub_zero])
        exact fin rfl s4 h4
  have ed : decide (((i : Int) + 1) < (w.length : Int)) = true := by simp; omega
  rw [ed, Bool.and_true]
  rw [drop_c hlt2] at fin plain hacc
  rw [bareP_two] at hacc fin plain
  by_cases c1 : w[i] = 92
  · rw [if_pos c1] at hacc
    (try simp (maxSteps := 1000000) (dsimp := false) (disch := (first | omega | (simp only [okR]; done) | (simp only [sizeR] <;> omega) | fail)) only [↓preR, postR, ↓w_stop, Nat.reduceEqDiff, Nat.reduceAdd, Nat.reduceSub, Nat.reduceMul, Int.reduceNeg, Nat.reduceLT, Int.reduceToNat, Nat.reduceLeDiff, Nat.sub_zero, tt 92 92 rfl c1])
    refine join_by fun J5 hJ5 => ?_
    have tail5 : ∀ (s3 : AS), Hs s3 X (Bd p (acc ++ (if (q && !([36, 34, 92, 96, 10] : Str).contains w[i + 1]) = true then [92] else [])) :: R) → J5 [] s3 := by
      intro s3 h3
      refine hJ5 _ _ ?_
      clear hJ5
      have tx : ∀ (x : UInt8) (n : Int), n = x.toNat → w[i + 1] = x → (((w[i + 1].toNat : Nat) : Int) = n) = True := fun x n hn h => eq_true (by rw [hn, h])
      have fx : ∀ (x : UInt8) (n : Int), n = x.toNat → ¬ w[i + 1] = x → (((w[i + 1].toNat : Nat) : Int) = n) = False := fun x n hn h => eq_false (fun h' => h (UInt8.toNat_inj.1 (by omega)))
      by_cases c9 : w[i + 1] = 10
      · rw [if_pos c9, List.nil_append, ← List.append_assoc] at hacc
        (try simp (maxSteps := 1000000) (dsimp := false) (disch := (first | omega | (simp only [okR]; done) | (simp only [sizeR] <;> omega) | fail)) only [↓preR, postR, ↓w_stop, Nat.reduceEqDiff, Nat.reduceAdd, Nat.reduceSub, Nat.reduceMul, Int.reduceNeg, Nat.reduceLT, Int.reduceToNat, Nat.reduceLeDiff, Nat.sub_zero, getd hlt2, tx 10 10 rfl c9])
        exact tail s3 q (i + 1) f _ (by omega) (by omega) (by omega) h3 hacc
      · rw [if_neg c9] at hacc
        have hl5 : (acc ++ (if (q && !([36, 34, 92, 96, 10] : Str).contains w[i + 1]) = true then ([92] : Str) else [])).length ≤ acc.length + 1 := by
          rw [List.length_append]
          have : (if (q && !([36, 34, 92, 96, 10] : Str).contains w[i + 1]) = true then ([92] : Str) else []).length ≤ 1 := by split <;> simp
          omega
        (try simp (maxSteps := 1000000) (dsimp := false) (disch := (first | omega | (simp only [okR]; done) | (simp only [sizeR] <;> omega) | fail)) only [↓preR, postR, ↓w_stop, Nat.reduceEqDiff, Nat.reduceAdd, Nat.reduceSub, Nat.reduceMul, Int.reduceNeg, Nat.reduceLT, Int.reduceToNat, Nat.reduceLeDiff, Nat.sub_zero, getd hlt2, fx 10 10 rfl c9])
        refine wrb_c rfl h3 (by omega) fun v s4 h4 => ?_
        (try simp (maxSteps := 1000000) (dsimp := false) (disch := (first | omega | (simp only [okR]; done) | (simp only [sizeR] <;> omega) | fail)) only [↓preR, postR, ↓w_stop, Nat.reduceEqDiff, Nat.reduceAdd, Nat.reduceSub, Nat.reduceMul, Int.reduceNeg, Nat.reduceLT, Int.reduceToNat, Nat.reduceLeDiff, Nat.sub_zero])
        refine tail s4 q (i + 1) f _ (by omega) (by omega) (by omega) h4 ?_
        rw [← hacc]
        simp only [List.append_assoc]
    clear hJ5
    cases q with
    | false =>
      have h2' : Hs s2 X (Bd p (acc ++ (if (false && !([36, 34, 92, 96, 10] : Str).contains w[i + 1]) = true then [92] else [])) :: R) := by
        rw [Bool.false_and, if_neg (by decide), List.append_nil]; exact h2
      (try simp (maxSteps := 1000000) (dsimp := false) (disch := (first | omega | (simp only [okR]; done) | (simp only [sizeR] <;> omega) | fail)) only [↓preR, postR, ↓w_stop, Nat.reduceEqDiff, Nat.reduceAdd, Nat.reduceSub, Nat.reduceMul, Int.reduceNeg, Nat.reduceLT, Int.reduceToNat, Nat.reduceLeDiff, Nat.sub_zero])
      exact tail5 _ h2'
    | true =>
      (try simp (maxSteps := 1000000) (dsimp := false) (disch := (first | omega | (simp only [okR]; done) | (simp only [sizeR] <;> omega) | fail)) only [↓preR, postR, ↓w_stop, Nat.reduceEqDiff, Nat.reduceAdd, Nat.reduceSub, Nat.reduceMul, Int.reduceNeg, Nat.reduceLT, Int.reduceToNat, Nat.reduceLeDiff, Nat.sub_zero, getd hlt2])
      refine idx_c rfl ?_
      rw [Bool.true_and, ← pos_has] at tail5
      cases hp : posB w[i + 1] [36, 34, 92, 96, 10] with
      | none =>
        rw [hp] at tail5
        (try simp (maxSteps := 1000000) (dsimp := false) (disch := (first | omega | (simp only [okR]; done) | (simp only [sizeR] <;> omega) | fail)) only [↓preR, postR, ↓w_stop, Nat.reduceEqDiff, Nat.reduceAdd, Nat.reduceSub, Nat.reduceMul, Int.reduceNeg, Nat.reduceLT, Int.reduceToNat, Nat.reduceLeDiff, Nat.sub_zero])
        refine wrb_c (c := 92) rfl h2 (by omega) fun v s4 h4 => ?_
        (try simp (maxSteps := 1000000) (dsimp := false) (disch := (first | omega | (simp only [okR]; done) | (simp only [sizeR] <;> omega) | fail)) only [↓preR, postR, ↓w_stop, Nat.reduceEqDiff, Nat.reduceAdd, Nat.reduceSub, Nat.reduceMul, Int.reduceNeg, Nat.reduceLT, Int.reduceToNat, Nat.reduceLeDiff, Nat.sub_zero])
        exact tail5 _ h4
      | some n =>
        rw [hp] at tail5
        (try simp (maxSteps := 1000000) (dsimp := false) (disch := (first | omega | (simp only [okR]; done) | (simp only [sizeR] <;> omega) | fail)) only [↓preR, postR, ↓w_stop, Nat.reduceEqDiff, Nat.reduceAdd, Nat.reduceSub, Nat.reduceMul, Int.reduceNeg, Nat.reduceLT, Int.reduceToNat, Nat.reduceLeDiff, Nat.sub_zero])
        refine tail5 _ ?_
        simpa using h2
  rw [if_neg c1] at hacc fin plain
  rw [decide_eq_false (p := ((w[i].toNat : Int) = 92)) (by rw [ff 92 92 rfl c1]; exact id)]
  by_cases c2 : w[i] = 34
  · rw [if_pos c2] at hacc
    (try simp (maxSteps := 1000000) (dsimp := false) (disch := (first | omega | (simp only [okR]; done) | (simp only [sizeR] <;> omega) | fail)) only [↓preR, postR, ↓w_stop, Nat.reduceEqDiff, Nat.reduceAdd, Nat.reduceSub, Nat.reduceMul, Int.reduceNeg, Nat.reduceLT, Int.reduceToNat, Nat.reduceLeDiff, Nat.sub_zero, tt 34 34 rfl c2])
    exact tail s2 (!q) i f acc (Nat.le_refl _) (by omega) (by omega) h2 (by rw [drop_c hlt2]; exact hacc)
  rw [if_neg c2] at hacc fin plain
  (try simp (maxSteps := 1000000) (dsimp := false) (disch := (first | omega | (simp only [okR]; done) | (simp only [sizeR] <;> omega) | fail)) only [↓preR, postR, ↓w_stop, Nat.reduceEqDiff, Nat.reduceAdd, Nat.reduceSub, Nat.reduceMul, Int.reduceNeg, Nat.reduceLT, Int.reduceToNat, Nat.reduceLeDiff, Nat.sub_zero, ff 34 34 rfl c2])
  refine grd_and (b := !q) (fun _ k' hk' => ?_) ?_
  · (try simp (maxSteps := 1000000) (dsimp := false) (disch := (first | omega | (simp only [okR]; done) | (simp only [sizeR] <;> omega) | fail)) only [↓preR, postR, ↓w_stop, Nat.reduceEqDiff, Nat.reduceAdd, Nat.reduceSub, Nat.reduceMul, Int.reduceNeg, Nat.reduceLT, Int.reduceToNat, Nat.reduceLeDiff, Nat.sub_zero])
    exact hk'
  by_cases c3 : w[i] = 39 ∧ q = false
  · rw [if_pos c3] at hacc fin plain
    have e3 : (decide ((w[i].toNat : Int) = 39) && !q) = true := by simp [tt 39 39 rfl c3.1, c3.2]
    rw [e3]
    (try simp (maxSteps := 1000000) (dsimp := false) (disch := (first | omega | (simp only [okR]; done) | (simp only [sizeR] <;> omega) | fail)) only [↓preR, postR, ↓w_stop, Nat.reduceEqDiff, Nat.reduceAdd, Nat.reduceSub, Nat.reduceMul, Int.reduceNeg, Nat.reduceLT, Int.reduceToNat, Nat.reduceLeDiff, Nat.sub_zero, drop_all])
    refine idx_c (c := 39) rfl ?_
    rw [← drop_c hlt2] at hacc fin plain
    cases hp : posB 39 (w.drop (i + 1)) with
    | none =>
      rw [hp] at hacc fin plain
      (try simp (maxSteps := 1000000) (dsimp := false) (disch := (first | omega | (simp only [okR]; done) | (simp only [sizeR] <;> omega) | fail)) only [↓preR, postR, ↓w_stop, Nat.reduceEqDiff, Nat.reduceAdd, Nat.reduceSub, Nat.reduceMul, Int.reduceNeg, Nat.reduceLT, Int.reduceToNat, Nat.reduceLeDiff, Nat.sub_zero])
      refine join_now ?_
      (try simp (maxSteps := 1000000) (dsimp := false) (disch := (first | omega | (simp only [okR]; done) | (simp only [sizeR] <;> omega) | fail)) only [↓preR, postR, ↓w_stop, Nat.reduceEqDiff, Nat.reduceAdd, Nat.reduceSub, Nat.reduceMul, Int.reduceNeg, Nat.reduceLT, Int.reduceToNat, Nat.reduceLeDiff, Nat.sub_zero])
      refine plain rfl _ fun v s4 h4 => ?_
      (try simp (maxSteps := 1000000) (dsimp := false) (disch := (first | omega | (simp only [okR]; done) | (simp only [sizeR] <;> omega) | fail)) only [↓preR, postR, ↓w_stop, Nat.reduceEqDiff, Nat.reduceAdd, Nat.reduceSub, Nat.reduceMul, Int.reduceNeg, Nat.reduceLT, Int.reduceToNat, Nat.reduceLeDiff, Nat.sub_zero])
      exact fin rfl s4 h4
    | some n =>
      rw [hp] at hacc
      have hn := pos_lt hp
      rw [List.length_drop] at hn
      have et : ((i : Int) + 1 + (n : Int)).toNat - (i + 1) = n := by omega
      (try simp (maxSteps := 1000000) (dsimp := false) (disch := (first | omega | (simp only [okR]; done) | (simp only [sizeR] <;> omega) | fail)) only [↓preR, postR, ↓w_stop, Nat.reduceEqDiff, Nat.reduceAdd, Nat.reduceSub, Nat.reduceMul, Int.reduceNeg, Nat.reduceLT, Int.reduceToNat, Nat.reduceLeDiff, Nat.sub_zero])
      refine join_now ?_
      (try simp (maxSteps := 1000000) (dsimp := false) (disch := (first | omega | (simp only [okR]; done) | (simp only [sizeR] <;> omega) | fail)) only [↓preR, postR, ↓w_stop, Nat.reduceEqDiff, Nat.reduceAdd, Nat.reduceSub, Nat.reduceMul, Int.reduceNeg, Nat.reduceLT, Int.reduceToNat, Nat.reduceLeDiff, Nat.sub_zero, et])
      refine wrs_c h2 (by rw [List.length_take, List.length_drop]; omega) fun v s4 h4 => ?_
      have e5 : ((i : Int) + ((n : Int) + 1)) = ((i + (n + 1) : Nat) : Int) := by omega
      (try simp (maxSteps := 1000000) (dsimp := false) (disch := (first | omega | (simp only [okR]; done) | (simp only [sizeR] <;> omega) | fail)) only [↓preR, postR, ↓w_stop, Nat.reduceEqDiff, Nat.reduceAdd, Nat.reduceSub, Nat.reduceMul, Int.reduceNeg, Nat.reduceLT, Int.reduceToNat, Nat.reduceLeDiff, Nat.sub_zero, ↓e5])
      refine tail s4 q (i + (n + 1)) f _ (by omega) (by omega) (by omega) h4 ?_
      rw [← hacc]
      simp only [List.append_assoc, drop_drop']
      rw [show i + (n + 1) + 1 = i + 1 + (n + 1) from by omega]
  · rw [if_neg c3] at hacc fin plain
    have e3 : (decide ((w[i].toNat : Int) = 39) && !q) = false := by
      by_cases c4 : w[i] = 39
      · have : q = true := by
          cases q with
          | true => rfl
          | false => exact absurd ⟨c4, rfl⟩ c3
        simp [this]
      · simp [ff 39 39 rfl c4]
    rw [e3]
    rw [← drop_c hlt2] at fin plain
    (try simp (maxSteps := 1000000) (dsimp := false) (disch := (first | omega | (simp only [okR]; done) | (simp only [sizeR] <;> omega) | fail)) only [↓preR, postR, ↓w_stop, Nat.reduceEqDiff, Nat.reduceAdd, Nat.reduceSub, Nat.reduceMul, Int.reduceNeg, Nat.reduceLT, Int.reduceToNat, Nat.reduceLeDiff, Nat.sub_zero])
    refine plain rfl _ fun v s4 h4 => ?_
    (try simp (maxSteps := 1000000) (dsimp := false) (disch := (first | omega | (simp only [okR]; done) | (simp only [sizeR] <;> omega) | fail)) only [↓preR, postR, ↓w_stop, Nat.reduceEqDiff, Nat.reduceAdd, Nat.reduceSub, Nat.reduceMul, Int.reduceNeg, Nat.reduceLT, Int.reduceToNat, Nat.reduceLeDiff, Nat.sub_zero])
    exact fin rfl s4 h4
end
end Go.Proofs.YtgijohcmkipkhaaDoor
