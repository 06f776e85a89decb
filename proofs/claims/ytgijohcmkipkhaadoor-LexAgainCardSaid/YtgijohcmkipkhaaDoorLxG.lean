/- A text gone through: what Go's library is asked for, and a word without its quotes. Conditions: as each theorem says. -/
import Derived.Test.YtgijohcmkipkhaaDoorLxD
import Derived.Test.YtgijohcmkipkhaaDoorLxF
import Derived.Test.YtgijohcmkipkhaaDoorGd
import Derived.Test.YtgijohcmkipkhaaDoorS
import Derived.Test.YtgijohcmkipkhaaDoorSb
namespace Go.Proofs.YtgijohcmkipkhaaDoor
open E Go.Lib
set_option linter.unusedVariables false
set_option linter.unusedSimpArgs false
set_option maxHeartbeats 1000000
set_option maxRecDepth 20000

theorem pos_has (c : UInt8) : ∀ l : Str, (posB c l).isSome = l.contains c
  | [] => rfl
  | a :: l => by
    rw [pos_cons', List.contains_cons, ← pos_has c l]
    by_cases h : a = c
    · subst h; simp
    · have : (c == a) = false := by simpa using fun e => h e.symm
      rw [if_neg h, this, Bool.false_or, Option.isSome_map]
where
  pos_cons' {c a : UInt8} {l : Str} : posB c (a :: l) = if a = c then some 0 else (posB c l).map (· + 1) := rfl
section
variable {σ σ' : AS} {X : Ce} {R : List Ck} {k : Value → AS → Prop} {s pre set : Str} {c : UInt8} {i : Nat}
theorem trim_c (hl : s.length ≤ maxLen) (hk : ∀ j, k (.string (bs (trimS s digs))) (σ.up j)) : kCall Tryd.prog 36 [.string (bs s), .string (bs digs)] σ k :=
  below_by (fun w hw => by
    have h := Any.strings_Trim_laid Tryd.lays160 (by kernel_rfl) (bs s) (bs digs) w (by unfold maxLen at hl; show s.toArray.size ≤ _; simp; omega) (by decide) (ascii_of_all (by decide))
    have e : (bs s).data.toList = s := by simp [bs]
    have e2 : (bs digs).data.toList = digs := by simp [bs]
    rw [e, e2] at h
    exact h) hk
theorem triml_c (hl : s.length ≤ maxLen) (hk : ∀ j, k (.string (bs (trimLeftS s [9]))) (σ.up j)) : kCall Tryd.prog 33 [.string (bs s), .string (bs [9])] σ k :=
  below_by (fun w hw => by
    have h := Any.strings_TrimLeft_laid Tryd.lays161 (by kernel_rfl) (bs s) (bs [9]) w (by decide) (ascii_of_all (by decide))
    have e : (bs s).data.toList = s := by simp [bs]
    have e2 : (bs [9]).data.toList = [9] := by simp [bs]
    rw [e, e2] at h
    exact h) hk
theorem among_c (h : Hs σ X R) (hk : ∀ σ', Hs σ' X R → k (.bool (set.contains c)) σ') {m : Int} (hm : m = c.toNat) (K : Nat) (hK : ∀ σ1 k1, kCall Tryd.prog 31 [.string (bs set)] σ1 (fun v3 s1 => kCallv Tryd.prog v3 [.int .u8 m] s1 k1) → kCall Tryd.prog K [.int .u8 m] σ1 k1) : kCall Tryd.prog K [.int .u8 m] σ k := by
  subst hm
  refine hK _ _ ?_
  refine f31 ?_
  have h1 := h.new (cs := [.string (bs set)])
  (simp (maxSteps := 1000000) (dsimp := false) (disch := (first | omega | (simp only [okR]; done) | (simp only [sizeR] <;> omega) | fail)) only [↓preR, postR, ↓w_join, Nat.reduceEqDiff, Nat.reduceAdd, Nat.reduceSub, Nat.reduceMul, Int.reduceNeg, Nat.reduceLT, Int.reduceToNat, Nat.reduceLeDiff, Nat.sub_zero, F31])
  refine ⟨k42_ok, ?_⟩
  refine f42 ?_
  (simp (maxSteps := 1000000) (dsimp := false) (disch := (first | omega | (simp only [okR]; done) | (simp only [sizeR] <;> omega) | fail)) only [↓preR, postR, ↓w_join, Nat.reduceEqDiff, Nat.reduceAdd, Nat.reduceSub, Nat.reduceMul, Int.reduceNeg, Nat.reduceLT, Int.reduceToNat, Nat.reduceLeDiff, Nat.sub_zero, F42, h1.obj])
  refine idx_c (c := c) rfl ?_
  rw [← pos_has] at hk
  cases hp : posB c set with
  | none =>
    rw [hp] at hk
    (simp (maxSteps := 1000000) (dsimp := false) (disch := (first | omega | (simp only [okR]; done) | (simp only [sizeR] <;> omega) | fail)) only [↓preR, postR, ↓w_join, Nat.reduceEqDiff, Nat.reduceAdd, Nat.reduceSub, Nat.reduceMul, Int.reduceNeg, Nat.reduceLT, Int.reduceToNat, Nat.reduceLeDiff, Nat.sub_zero])
    exact hk _ h1.drop
  | some n =>
    rw [hp] at hk
    (simp (maxSteps := 1000000) (dsimp := false) (disch := (first | omega | (simp only [okR]; done) | (simp only [sizeR] <;> omega) | fail)) only [↓preR, postR, ↓w_join, Nat.reduceEqDiff, Nat.reduceAdd, Nat.reduceSub, Nat.reduceMul, Int.reduceNeg, Nat.reduceLT, Int.reduceToNat, Nat.reduceLeDiff, Nat.sub_zero])
    exact hk _ h1.drop
theorem blank_c {m : Int} (hm : m = c.toNat) (h : Hs σ X R) (hk : ∀ σ', Hs σ' X R → k (.bool (blankB c)) σ') : kCall Tryd.prog 20 [.int .u8 m] σ k := by
  have e : blankB c = ([32, 9] : Str).contains c := by
    unfold blankB
    by_cases h1 : c = 32
    · subst h1; rfl
    · by_cases h2 : c = 9
      · subst h2; rfl
      · simp [h1, h2]
  rw [e] at hk
  refine among_c h hk hm _ fun σ1 k1 h1 => ?_
  refine f20 ?_
  (simp (maxSteps := 1000000) (dsimp := false) (disch := (first | omega | (simp only [okR]; done) | (simp only [sizeR] <;> omega) | fail)) only [↓preR, postR, ↓w_join, Nat.reduceEqDiff, Nat.reduceAdd, Nat.reduceSub, Nat.reduceMul, Int.reduceNeg, Nat.reduceLT, Int.reduceToNat, Nat.reduceLeDiff, Nat.sub_zero, F20])
  exact h1
theorem meta_c {m : Int} (hm : m = c.toNat) (h : Hs σ X R) (hk : ∀ σ', Hs σ' X R → k (.bool (metaB c)) σ') : kCall Tryd.prog 34 [.int .u8 m] σ k := by
  refine among_c h hk hm _ fun σ1 k1 h1 => ?_
  refine f34 ?_
  (simp (maxSteps := 1000000) (dsimp := false) (disch := (first | omega | (simp only [okR]; done) | (simp only [sizeR] <;> omega) | fail)) only [↓preR, postR, ↓w_join, Nat.reduceEqDiff, Nat.reduceAdd, Nat.reduceSub, Nat.reduceMul, Int.reduceNeg, Nat.reduceLT, Int.reduceToNat, Nat.reduceLeDiff, Nat.sub_zero, F34])
  exact h1
theorem idx2_c {m : Int} (hm : m = c.toNat) (hk : k (.int .i64 (match posB c s with | some n => (n : Int) | none => -1)) σ) : kCall Tryd.prog 48 [.string (bs s), .int .u8 m] σ k := by
  subst hm
  refine f48 ?_
  (simp (maxSteps := 1000000) (dsimp := false) (disch := (first | omega | (simp only [okR]; done) | (simp only [sizeR] <;> omega) | fail)) only [↓preR, postR, ↓w_join, Nat.reduceEqDiff, Nat.reduceAdd, Nat.reduceSub, Nat.reduceMul, Int.reduceNeg, Nat.reduceLT, Int.reduceToNat, Nat.reduceLeDiff, Nat.sub_zero, F48])
  refine idx_by (by kernel_rfl) (by kernel_rfl) ?_
  have e : ((c.toNat : Int)).toNat.toUInt8 = c := by simp
  rw [e, pos_idx]
  exact hk
/-- The line, and whether there is more. -/
theorem cut_c (hl : s.length ≤ 1000000) (hk : ∀ rest, k (.tuple #[.string (bs (s.take (lineN s))), rest, .bool (decide (lineN s < s.length))]) σ) : kCall Tryd.prog 21 [.string (bs s), .string (bs [10])] σ k := by
  refine f21 ?_
  (simp (maxSteps := 1000000) (dsimp := false) (disch := (first | omega | (simp only [okR]; done) | (simp only [sizeR] <;> omega) | fail)) only [↓preR, postR, ↓w_join, Nat.reduceEqDiff, Nat.reduceAdd, Nat.reduceSub, Nat.reduceMul, Int.reduceNeg, Nat.reduceLT, Int.reduceToNat, Nat.reduceLeDiff, Nat.sub_zero, F21])
  refine f32 ?_
  (try simp (maxSteps := 1000000) (dsimp := false) (disch := (first | omega | (simp only [okR]; done) | (simp only [sizeR] <;> omega) | fail)) only [↓preR, postR, ↓w_stop, Nat.reduceEqDiff, Nat.reduceAdd, Nat.reduceSub, Nat.reduceMul, Int.reduceNeg, Nat.reduceLT, Int.reduceToNat, Nat.reduceLeDiff, Nat.sub_zero, F32])
  refine join_now ?_
  (try simp (maxSteps := 1000000) (dsimp := false) (disch := (first | omega | (simp only [okR]; done) | (simp only [sizeR] <;> omega) | fail)) only [↓preR, postR, ↓w_stop, Nat.reduceEqDiff, Nat.reduceAdd, Nat.reduceSub, Nat.reduceMul, Int.reduceNeg, Nat.reduceLT, Int.reduceToNat, Nat.reduceLeDiff, Nat.sub_zero])
  refine f43 ?_
  by_cases h0 : ([10] : Str) = s
  · subst h0
    (try simp (maxSteps := 1000000) (dsimp := false) (disch := (first | omega | (simp only [okR]; done) | (simp only [sizeR] <;> omega) | fail)) only [↓preR, postR, ↓w_join, Nat.reduceEqDiff, Nat.reduceAdd, Nat.reduceSub, Nat.reduceMul, Int.reduceNeg, Nat.reduceLT, Int.reduceToNat, Nat.reduceLeDiff, Nat.sub_zero, F43])
    exact hk _
  · (try simp (maxSteps := 1000000) (dsimp := false) (disch := (first | omega | (simp only [okR]; done) | (simp only [sizeR] <;> omega) | fail)) only [↓preR, postR, ↓w_join, Nat.reduceEqDiff, Nat.reduceAdd, Nat.reduceSub, Nat.reduceMul, Int.reduceNeg, Nat.reduceLT, Int.reduceToNat, Nat.reduceLeDiff, Nat.sub_zero, F43, h0])
    refine idx2_c (c := 10) rfl ?_
    unfold lineN at hk
    cases hp : posB 10 s with
    | none =>
      rw [hp] at hk
      have e : decide (s.length < s.length) = false := by simp
      simp only [List.take_length, e] at hk
      (try simp (maxSteps := 1000000) (dsimp := false) (disch := (first | omega | (simp only [okR]; done) | (simp only [sizeR] <;> omega) | fail)) only [↓preR, postR, ↓w_join, Nat.reduceEqDiff, Nat.reduceAdd, Nat.reduceSub, Nat.reduceMul, Int.reduceNeg, Nat.reduceLT, Int.reduceToNat, Nat.reduceLeDiff, Nat.sub_zero])
      exact hk _
    | some n =>
      rw [hp] at hk
      have hn := pos_lt hp
      have e : decide (n < s.length) = true := by simpa using hn
      simp only [e] at hk
      (try simp (maxSteps := 1000000) (dsimp := false) (disch := (first | omega | (simp only [okR]; done) | (simp only [sizeR] <;> omega) | fail)) only [↓preR, postR, ↓w_join, Nat.reduceEqDiff, Nat.reduceAdd, Nat.reduceSub, Nat.reduceMul, Int.reduceNeg, Nat.reduceLT, Int.reduceToNat, Nat.reduceLeDiff, Nat.sub_zero])
      exact hk _
/-- An operator that stands here, by its place among all. -/
theorem opix_c (hs : s.length ≤ 1000000) {q : Nat} (h : Hs σ X (Cel q [.string (bs s)] :: R))
    (hk0 : opAt s = none → ∀ σ', Hs σ' X (Cel q [.string (bs s)] :: R) → k (.int .i64 (-1)) σ')
    (hk1 : ∀ (n : Nat) σ' (hn : n < ops16.length), opAt s = some ops16[n] → Hs σ' X (Cel q [.string (bs s)] :: R) → k (.int .i64 n) σ') {v22 : Value} (hr : RepL X v22 ops16) :
    kCall Tryd.prog 16 [v22, .func (.func 18) #[] #[pv q]] σ k := by
  obtain ⟨a, b, o, cap, rfl, hc, hm, hat⟩ := strs_at hr
  refine f16 ?_
  unfold maxLen at hm
  (try simp (maxSteps := 1000000) (dsimp := false) (disch := (first | omega | (simp only [okR]; done) | (simp only [sizeR] <;> omega) | fail)) only [↓preR, postR, ↓w_stop, Nat.reduceEqDiff, Nat.reduceAdd, Nat.reduceSub, Nat.reduceMul, Int.reduceNeg, Nat.reduceLT, Int.reduceToNat, Nat.reduceLeDiff, Nat.sub_zero, F16])
  refine join_by fun J hJ => ?_
  (try simp (maxSteps := 1000000) (dsimp := false) (disch := (first | omega | (simp only [okR]; done) | (simp only [sizeR] <;> omega) | fail)) only [↓preR, postR, ↓w_stop, Nat.reduceEqDiff, Nat.reduceAdd, Nat.reduceSub, Nat.reduceMul, Int.reduceNeg, Nat.reduceLT, Int.reduceToNat, Nat.reduceLeDiff, Nat.sub_zero])
  refine loop_inv (fun nn xs s1 => ∃ j : Nat, xs = [.int .i64 j] ∧ σ = s1 ∧ j ≤ ops16.length ∧ (ops16.drop j).find? (fun o => isPre o s) = opAt s ∧ nn = ops16.length - j) _ ⟨0, rfl, rfl, Nat.zero_le _, rfl, rfl⟩ ?_
  rintro _ _ s1 again ⟨j, rfl, rfl, hj, hf, rfl⟩ hag
  (try simp (maxSteps := 1000000) (dsimp := false) (disch := (first | omega | (simp only [okR]; done) | (simp only [sizeR] <;> omega) | fail)) only [↓preR, postR, ↓w_stop, Nat.reduceEqDiff, Nat.reduceAdd, Nat.reduceSub, Nat.reduceMul, Int.reduceNeg, Nat.reduceLT, Int.reduceToNat, Nat.reduceLeDiff, Nat.sub_zero])
  refine join_now ?_
  by_cases hlt : j < ops16.length
  · obtain ⟨rfl, c0, hml⟩ := hat j hlt
    have g0 := h.ldx c0
    (try simp (maxSteps := 1000000) (dsimp := false) (disch := (first | omega | (simp only [okR]; done) | (simp only [sizeR] <;> omega) | fail)) only [↓preR, postR, ↓w_stop, Nat.reduceEqDiff, Nat.reduceAdd, Nat.reduceSub, Nat.reduceMul, Int.reduceNeg, Nat.reduceLT, Int.reduceToNat, Nat.reduceLeDiff, Nat.sub_zero])
    refine join_now ?_
    (try simp (maxSteps := 1000000) (dsimp := false) (disch := (first | omega | (simp only [okR]; done) | (simp only [sizeR] <;> omega) | fail)) only [↓preR, postR, ↓w_stop, Nat.reduceEqDiff, Nat.reduceAdd, Nat.reduceSub, Nat.reduceMul, Int.reduceNeg, Nat.reduceLT, Int.reduceToNat, Nat.reduceLeDiff, Nat.sub_zero, g0])
    refine ⟨k18_ok, ?_⟩
    refine f18 ?_
    (try simp (maxSteps := 1000000) (dsimp := false) (disch := (first | omega | (simp only [okR]; done) | (simp only [sizeR] <;> omega) | fail)) only [↓preR, postR, ↓w_stop, Nat.reduceEqDiff, Nat.reduceAdd, Nat.reduceSub, Nat.reduceMul, Int.reduceNeg, Nat.reduceLT, Int.reduceToNat, Nat.reduceLeDiff, Nat.sub_zero, F18, h.obj])
    refine pref_c (by unfold maxLen; omega) ?_
    rw [List.drop_eq_getElem_cons hlt, List.find?_cons] at hf
    unfold isPre at hf
    by_cases hp : s.take (ops16[j]).length = ops16[j]
    · simp only [hp, decide_true] at hf
      have hT : (s.take (ops16[j]).length = ops16[j]) = True := eq_true hp
      (try simp (maxSteps := 1000000) (dsimp := false) (disch := (first | omega | (simp only [okR]; done) | (simp only [sizeR] <;> omega) | fail)) only [↓preR, postR, ↓w_stop, Nat.reduceEqDiff, Nat.reduceAdd, Nat.reduceSub, Nat.reduceMul, Int.reduceNeg, Nat.reduceLT, Int.reduceToNat, Nat.reduceLeDiff, Nat.sub_zero, hT])
      exact hk1 j _ hlt hf.symm h
    · simp only [hp, decide_false] at hf
      have hF : (s.take (ops16[j]).length = ops16[j]) = False := eq_false hp
      (try simp (maxSteps := 1000000) (dsimp := false) (disch := (first | omega | (simp only [okR]; done) | (simp only [sizeR] <;> omega) | fail)) only [↓preR, postR, ↓w_stop, Nat.reduceEqDiff, Nat.reduceAdd, Nat.reduceSub, Nat.reduceMul, Int.reduceNeg, Nat.reduceLT, Int.reduceToNat, Nat.reduceLeDiff, Nat.sub_zero, hF])
      exact hag _ _ _ ⟨j + 1, by simp, rfl, hlt, hf, rfl⟩ (by omega)
  · (try simp (maxSteps := 1000000) (dsimp := false) (disch := (first | omega | (simp only [okR]; done) | (simp only [sizeR] <;> omega) | fail)) only [↓preR, postR, ↓w_stop, Nat.reduceEqDiff, Nat.reduceAdd, Nat.reduceSub, Nat.reduceMul, Int.reduceNeg, Nat.reduceLT, Int.reduceToNat, Nat.reduceLeDiff, Nat.sub_zero])
    refine hJ _ _ ?_
    (try simp (maxSteps := 1000000) (dsimp := false) (disch := (first | omega | (simp only [okR]; done) | (simp only [sizeR] <;> omega) | fail)) only [↓preR, postR, ↓w_stop, Nat.reduceEqDiff, Nat.reduceAdd, Nat.reduceSub, Nat.reduceMul, Int.reduceNeg, Nat.reduceLT, Int.reduceToNat, Nat.reduceLeDiff, Nat.sub_zero])
    rw [List.drop_of_length_le (by omega)] at hf
    exact hk0 hf.symm _ h
/-- The operators, as a list of the data that stay. -/
theorem opers_c (h : Hs σ X R) (hk : ∀ X' v σ', Ce.le X X' → RepL X' v ops16 → Hs σ' X' R → k v σ') : kCall Tryd.prog 17 [] σ k := by
  refine f17 ?_
  have h1 := h.new (cs := ops16.map fun o => .string (bs o))
  have h2 : Hs _ X (E.Own (α := Str) (.slice (some ⟨σ.n, 0, none⟩) 16 16) ops16 :: R) := h1.lit (l := ops16) (by
    have : ∀ l : List Str, (∀ s, s ∈ l → s.length ≤ maxLen) → RpL X l (l.map fun o => .string (bs o)) := by
      intro l
      induction l with
      | nil => intro _; rfl
      | cons a l ih => intro hl; exact ⟨[_], _, rfl, ⟨rfl, hl a (by simp)⟩, ih fun s hs => hl s (by simp [hs])⟩
    exact this _ (by unfold maxLen; decide)) rfl (by unfold maxLen; decide)
  obtain ⟨X', hle, hr, h3⟩ := h2.keep
  (try simp (maxSteps := 1000000) (dsimp := false) (disch := (first | omega | (simp only [okR]; done) | (simp only [sizeR] <;> omega) | fail)) only [↓preR, postR, ↓w_join, Nat.reduceEqDiff, Nat.reduceAdd, Nat.reduceSub, Nat.reduceMul, Int.reduceNeg, Nat.reduceLT, Int.reduceToNat, Nat.reduceLeDiff, Nat.sub_zero, F17])
  exact hk X' _ _ hle hr h3
end
end Go.Proofs.YtgijohcmkipkhaaDoor
