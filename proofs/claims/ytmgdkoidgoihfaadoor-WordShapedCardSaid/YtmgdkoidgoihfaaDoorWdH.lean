/- Words: a text is read. Conditions: as each theorem says. -/
import Derived.Test.YtmgdkoidgoihfaaDoorWdG
namespace Go.Proofs.YtmgdkoidgoihfaaDoor
open E Go.Lib
open Go.RowKit
set_option linter.unusedVariables false
set_option linter.unusedSimpArgs false
set_option maxHeartbeats 1000000
set_option maxRecDepth 20000

/-- What a thing of a text looks like. -/
def Shape : Str → Prop
  | [] => False
  | [_] => True
  | c :: x :: r => (c = 92 ∧ r = []) ∨ c = 39 ∨ c = 34 ∨ (c = 36 ∧ (x = 123 ∨ x = 40) ∧ r ≠ [])
theorem thing_eq (rd : Str → Nat → WR) (c : UInt8) (r : Str) (way : Nat) (out : List Pt) : thingP rd (c :: r) way out =
    if c = 92 then .ok (pairP (c :: r) way out)
    else if r = [] then
      (if c = 36 then .ok (addP out (litP [c] true))
      else if way = 0 ∧ metaB c = true then .bad 10
      else .ok (addP out (litP [c] (withinB way))))
    else if c = 39 then .ok (addP out (litP (mid (c :: r)) true))
    else if c = 34 then
      (match rd (mid (c :: r)) 2 with
      | .bad e => .bad e
      | .ok w => .ok (w.foldl addP (if w = [] then addP out (litP [] true) else out)))
    else if r.head? = some 123 then braceP rd ((r.drop 1).take (r.length - 2)) way out
    else .ok (runP r (withinB way) out) := rfl
theorem shape_two {c : UInt8} {l : Str} {n : Nat} (h2 : 2 ≤ n) (hn : n ≤ (c :: l).length) (hc : c = 39 ∨ c = 34) : Shape ((c :: l).take n) := by
  obtain ⟨m, rfl⟩ : ∃ m, n = m + 2 := ⟨n - 2, by omega⟩
  cases l with
  | nil => simp at hn
  | cons x r =>
    rw [List.take_succ_cons, List.take_succ_cons]
    rcases hc with h | h
    · exact .inr (.inl h)
    · exact .inr (.inr (.inl h))
theorem shape_three {x : UInt8} {r : Str} {n : Nat} (h3 : 3 ≤ n) (hn : n ≤ (36 :: x :: r).length) (hx : x = 123 ∨ x = 40) : Shape ((36 :: x :: r).take n) := by
  obtain ⟨m, rfl⟩ : ∃ m, n = m + 3 := ⟨n - 3, by omega⟩
  rw [List.take_succ_cons, List.take_succ_cons]
  refine .inr (.inr (.inr ⟨rfl, hx, ?_⟩))
  cases r with
  | nil => simp at hn
  | cons y r => simp
theorem go_shape {c : UInt8} {l : Str} {q d : Bool} {deep n f : Nat} (h : go (f + 1) none (c :: l) q d false deep = .ok n) : Shape ((c :: l).take n) := by
  have hlen := go_ok h
  rw [go_n] at h
  have one : Shape ((c :: l).take 1) := by rw [List.take_succ_cons, List.take_zero]; trivial
  split at h
  · rename_i h92
    cases l with
    | nil => simp at h; subst h; exact one
    | cons x r => simp at h; subst h; subst h92; exact .inl ⟨rfl, by simp⟩
  split at h
  · rename_i h39
    split at h
    · injection h with h; subst h; exact shape_two (by omega) hlen.2 (.inl h39.1)
    · cases h
  split at h
  · rename_i h34
    obtain ⟨i, hi, rfl⟩ := shut_ok h
    have := go_ok hi
    exact shape_two (by omega) hlen.2 (.inr h34.1)
  split at h
  · rename_i h40; cases h40.2
  split at h
  · rename_i h36
    subst h36
    split at h
    · injection h with h; subst h; exact one
    · rename_i x r
      split at h
      · rename_i hx
        obtain ⟨i, hi, rfl⟩ := shut_ok h
        have := go_ok hi
        exact shape_three (by omega) hlen.2 (.inl hx)
      split at h
      · rename_i hx
        obtain ⟨i, hi, rfl⟩ := shut_ok h
        have := go_ok hi
        exact shape_three (by omega) hlen.2 (.inr hx)
      · injection h with h; subst h; exact one
  split at h
  · cases h
  · injection h with h; subst h; exact one
section
variable {σ σ' : AS} {X : Ce} {R : List Ck} {k : Value → AS → Prop} {p n i f : Nat} {e : Int} {out : List Pt} {s t : Str} {c : UInt8} {way : Nat} {q : Bool}
theorem TK.any {r : WR} (h : TK X R p k r) : TK X R p (fun _ s => k undef s) r := by
  cases r with
  | ok w => exact fun X' w σ' hX h1 => h X' undef σ' hX h1
  | bad e => exact fun X' w σ' o hX h1 => h X' undef σ' o hX h1
theorem inner_c (ih : RdC f) (hs : s.length ≤ 100000) (hsf : s.length < f) (hf : FitW out n) (hn : n ≤ 700000) (h : Hs σ X (Rdr p out 0 :: R))
    (hk : TK X R p k (match rdP f s 2 [] with
      | .bad e => .bad e
      | .ok w => .ok (w.foldl addP (if w = [] then addP out (litP [] true) else out)))) : kCall Tryd.prog 29 [pv p, .string (bs s)] σ k := by
  refine f29 ?_
  (try simp (maxSteps := 1000000) (dsimp := false) (disch := (first | omega | (simp only [okR]; done) | (simp only [sizeR] <;> omega) | fail)) only [↓preR, postR, ↓w_stop, Nat.reduceEqDiff, Nat.reduceAdd, Nat.reduceSub, Nat.reduceMul, Int.reduceNeg, Nat.reduceLT, Int.reduceToNat, Nat.reduceLeDiff, Nat.sub_zero, F29])
  refine ih (way := 2) hsf hs (by omega) h ?_
  cases hrd : rdP f s 2 [] with
  | bad e' =>
    rw [hrd] at hk
    have he := rd_ne f s 2 [] e' hsf hrd
    intro X' s1 hX h1
    (try simp (maxSteps := 1000000) (dsimp := false) (disch := (first | omega | (simp only [okR]; done) | (simp only [sizeR] <;> omega) | fail)) only [↓preR, postR, ↓w_stop, Nat.reduceEqDiff, Nat.reduceAdd, Nat.reduceSub, Nat.reduceMul, Int.reduceNeg, Nat.reduceLT, Int.reduceToNat, Nat.reduceLeDiff, Nat.sub_zero])
    refine join_now ?_
    obtain ⟨u, ep, hlt, ⟨ua, un, uc, rfl⟩, hset⟩ := rdr_set h1
    (try simp (maxSteps := 1000000) (dsimp := false) (disch := (first | omega | (simp only [okR]; done) | (simp only [sizeR] <;> omega) | fail)) only [↓preR, postR, ↓w_stop, Nat.reduceEqDiff, Nat.reduceAdd, Nat.reduceSub, Nat.reduceMul, Int.reduceNeg, Nat.reduceLT, Int.reduceToNat, Nat.reduceLeDiff, Nat.sub_zero, he, ep])
    exact hk X' _ _ out hX (hset e')
  | ok w =>
    rw [hrd] at hk
    have hfw := rd_fit f s 2 0 [] w ⟨by simp, by simp [txt]⟩ hrd
    rw [Nat.zero_add] at hfw
    intro X' v s1 hX hv h1
    have hv' := hv
    obtain ⟨va, vcp, rfl, _⟩ := hv'
    (try simp (maxSteps := 1000000) (dsimp := false) (disch := (first | omega | (simp only [okR]; done) | (simp only [sizeR] <;> omega) | fail)) only [↓preR, postR, ↓w_stop, Nat.reduceEqDiff, Nat.reduceAdd, Nat.reduceSub, Nat.reduceMul, Int.reduceNeg, Nat.reduceLT, Int.reduceToNat, Nat.reduceLeDiff, Nat.sub_zero])
    refine join_now ?_
    (try simp (maxSteps := 1000000) (dsimp := false) (disch := (first | omega | (simp only [okR]; done) | (simp only [sizeR] <;> omega) | fail)) only [↓preR, postR, ↓w_stop, Nat.reduceEqDiff, Nat.reduceAdd, Nat.reduceSub, Nat.reduceMul, Int.reduceNeg, Nat.reduceLT, Int.reduceToNat, Nat.reduceLeDiff, Nat.sub_zero])
    refine join_by fun J2 hJ2 => ?_
    have tail : ∀ o1 s2, Hs s2 X' (Rdr p o1 0 :: R) → FitW o1 (n + 1) → w.foldl addP o1 = w.foldl addP (if w = [] then addP out (litP [] true) else out) → J2 [] s2 := by
      intro o1 s2 h2 hf2 he
      refine hJ2 _ _ ?_
      (try simp (maxSteps := 1000000) (dsimp := false) (disch := (first | omega | (simp only [okR]; done) | (simp only [sizeR] <;> omega) | fail)) only [↓preR, postR, ↓w_stop, Nat.reduceEqDiff, Nat.reduceAdd, Nat.reduceSub, Nat.reduceMul, Int.reduceNeg, Nat.reduceLT, Int.reduceToNat, Nat.reduceLeDiff, Nat.sub_zero])
      refine each_c hv hf2 (by have := hfw.1; omega) (by have := hfw.2; omega) h2 fun u s3 h3 => ?_
      (try simp (maxSteps := 1000000) (dsimp := false) (disch := (first | omega | (simp only [okR]; done) | (simp only [sizeR] <;> omega) | fail)) only [↓preR, postR, ↓w_stop, Nat.reduceEqDiff, Nat.reduceAdd, Nat.reduceSub, Nat.reduceMul, Int.reduceNeg, Nat.reduceLT, Int.reduceToNat, Nat.reduceLeDiff, Nat.sub_zero])
      rw [he] at h3
      exact hk X' _ _ hX h3
    clear hJ2
    by_cases hw : w = []
    · subst hw
      (try simp (maxSteps := 1000000) (dsimp := false) (disch := (first | omega | (simp only [okR]; done) | (simp only [sizeR] <;> omega) | fail)) only [↓preR, postR, ↓w_stop, Nat.reduceEqDiff, Nat.reduceAdd, Nat.reduceSub, Nat.reduceMul, Int.reduceNeg, Nat.reduceLT, Int.reduceToNat, Nat.reduceLeDiff, Nat.sub_zero])
      refine lit_c hf (by simp; omega) h1 fun u s2 h2 => ?_
      (try simp (maxSteps := 1000000) (dsimp := false) (disch := (first | omega | (simp only [okR]; done) | (simp only [sizeR] <;> omega) | fail)) only [↓preR, postR, ↓w_stop, Nat.reduceEqDiff, Nat.reduceAdd, Nat.reduceSub, Nat.reduceMul, Int.reduceNeg, Nat.reduceLT, Int.reduceToNat, Nat.reduceLeDiff, Nat.sub_zero])
      exact tail _ _ h2 (hf.add (by simp [Pt.text]) (by omega)) (by simp)
    · have : ¬ w.length = 0 := fun h => hw (List.eq_nil_of_length_eq_zero h)
      (try simp (maxSteps := 1000000) (dsimp := false) (disch := (first | omega | (simp only [okR]; done) | (simp only [sizeR] <;> omega) | fail)) only [↓preR, postR, ↓w_stop, Nat.reduceEqDiff, Nat.reduceAdd, Nat.reduceSub, Nat.reduceMul, Int.reduceNeg, Nat.reduceLT, Int.reduceToNat, Nat.reduceLeDiff, Nat.sub_zero])
      exact tail _ _ h1 (hf.le (by omega)) (by rw [if_neg hw])
theorem wthing_c (ih : RdC f) (hsh : Shape t) (hs : t.length ≤ 100000) (hsf : t.length ≤ f) (hw : way ≤ 5) (hf : FitW out n) (hn : n ≤ 700000) (h : Hs σ X (Rdr p out 0 :: R))
    (hk : TK X R p k (thingP (fun s w => rdP f s w []) t way out)) : kCall Tryd.prog 20 [pv p, .string (bs t), .int .i64 way] σ k := by
  refine f20 ?_
  have ok : ∀ {o1 : List Pt}, TK X R p k (.ok o1) → ∀ (w : Value) (σ' : AS), Hs σ' X (Rdr p o1 0 :: R) → k undef σ' := fun h1 w σ' h2 => h1 X undef σ' (Ce.le_refl _) h2
  have i92 : ∀ c : UInt8, c = 92 ↔ c.toNat = 92 := fun c => u8_eq rfl
  have i36 : ∀ c : UInt8, c = 36 ↔ c.toNat = 36 := fun c => u8_eq rfl
  cases t with
  | nil => exact hsh.elim
  | cons c l =>
  cases l with
  | nil =>
    have hne : ([c] : Str).length = 1 := rfl
    rw [thing_eq] at hk
    by_cases h92 : c = 92
    · rw [if_pos h92] at hk
      subst h92
      (simp (maxSteps := 1000000) (dsimp := false) (disch := (first | omega | (simp only [okR]; done) | (simp only [sizeR] <;> omega) | fail)) only [↓preR, postR, ↓w_join, Nat.reduceEqDiff, Nat.reduceAdd, Nat.reduceSub, Nat.reduceMul, Int.reduceNeg, Nat.reduceLT, Int.reduceToNat, Nat.reduceLeDiff, Nat.sub_zero, F20])
      exact pair_c hf (by omega) hw (.inl rfl) h (ok hk)
    have n92 : ¬ c.toNat = 92 := fun h => h92 ((i92 c).2 h)
    rw [if_neg h92, if_pos rfl] at hk
    by_cases h36 : c = 36
    · rw [if_pos h36] at hk
      subst h36
      (simp (maxSteps := 1000000) (dsimp := false) (disch := (first | omega | (simp only [okR]; done) | (simp only [sizeR] <;> omega) | fail)) only [↓preR, postR, ↓w_join, Nat.reduceEqDiff, Nat.reduceAdd, Nat.reduceSub, Nat.reduceMul, Int.reduceNeg, Nat.reduceLT, Int.reduceToNat, Nat.reduceLeDiff, Nat.sub_zero, F20])
      exact lit_c hf (by simp; omega) h (ok hk)
    have n36 : ¬ c.toNat = 36 := fun h => h36 ((i36 c).2 h)
    rw [if_neg h36] at hk
    have fin : ¬ (way = 0 ∧ metaB c = true) → ∀ s1, Hs s1 X (Rdr p out 0 :: R) → kCall Tryd.prog 18 [.int .i64 way] s1 fun v9 s => kCall Tryd.prog 28 [pv p, .string (bs [c]), v9] s fun v10 s => k undef s := by
      intro hc s1 h1
      rw [if_neg hc] at hk
      refine within_c hw ?_
      exact lit_c hf (by simp; omega) h1 (ok hk)
    have byte : ∀ m : Nat, (c.toNat = m) → True := fun _ _ => trivial
    by_cases n39 : c.toNat = 39
    · by_cases h0 : way = 0
      · (simp (maxSteps := 1000000) (dsimp := false) (disch := (first | omega | (simp only [okR]; done) | (simp only [sizeR] <;> omega) | fail)) only [↓preR, postR, ↓w_join, Nat.reduceEqDiff, Nat.reduceAdd, Nat.reduceSub, Nat.reduceMul, Int.reduceNeg, Nat.reduceLT, Int.reduceToNat, Nat.reduceLeDiff, Nat.sub_zero, F20, Option.getD_some])
        refine meta_c (c := c) rfl h fun s1 h1 => ?_
        cases hm : metaB c with
        | true =>
          rw [if_pos ⟨h0, hm⟩] at hk
          obtain ⟨u, ep, hlt, ⟨ua, un, uc, rfl⟩, hset⟩ := rdr_set h1
          (try simp (maxSteps := 1000000) (dsimp := false) (disch := (first | omega | (simp only [okR]; done) | (simp only [sizeR] <;> omega) | fail)) only [↓preR, postR, ↓w_join, Nat.reduceEqDiff, Nat.reduceAdd, Nat.reduceSub, Nat.reduceMul, Int.reduceNeg, Nat.reduceLT, Int.reduceToNat, Nat.reduceLeDiff, Nat.sub_zero, ep])
          exact hk X _ _ out (Ce.le_refl _) (hset 10)
        | false =>
          (try simp (maxSteps := 1000000) (dsimp := false) (disch := (first | omega | (simp only [okR]; done) | (simp only [sizeR] <;> omega) | fail)) only [↓preR, postR, ↓w_join, Nat.reduceEqDiff, Nat.reduceAdd, Nat.reduceSub, Nat.reduceMul, Int.reduceNeg, Nat.reduceLT, Int.reduceToNat, Nat.reduceLeDiff, Nat.sub_zero])
          exact fin (by rw [hm]; simp) _ h1
      · (simp (maxSteps := 1000000) (dsimp := false) (disch := (first | omega | (simp only [okR]; done) | (simp only [sizeR] <;> omega) | fail)) only [↓preR, postR, ↓w_join, Nat.reduceEqDiff, Nat.reduceAdd, Nat.reduceSub, Nat.reduceMul, Int.reduceNeg, Nat.reduceLT, Int.reduceToNat, Nat.reduceLeDiff, Nat.sub_zero, F20, Option.getD_some])
        exact fin (fun h => h0 h.1) _ h
    by_cases n34 : c.toNat = 34
    · by_cases h0 : way = 0
      · (simp (maxSteps := 1000000) (dsimp := false) (disch := (first | omega | (simp only [okR]; done) | (simp only [sizeR] <;> omega) | fail)) only [↓preR, postR, ↓w_join, Nat.reduceEqDiff, Nat.reduceAdd, Nat.reduceSub, Nat.reduceMul, Int.reduceNeg, Nat.reduceLT, Int.reduceToNat, Nat.reduceLeDiff, Nat.sub_zero, F20, Option.getD_some])
        refine meta_c (c := c) rfl h fun s1 h1 => ?_
        cases hm : metaB c with
        | true =>
          rw [if_pos ⟨h0, hm⟩] at hk
          obtain ⟨u, ep, hlt, ⟨ua, un, uc, rfl⟩, hset⟩ := rdr_set h1
          (try simp (maxSteps := 1000000) (dsimp := false) (disch := (first | omega | (simp only [okR]; done) | (simp only [sizeR] <;> omega) | fail)) only [↓preR, postR, ↓w_join, Nat.reduceEqDiff, Nat.reduceAdd, Nat.reduceSub, Nat.reduceMul, Int.reduceNeg, Nat.reduceLT, Int.reduceToNat, Nat.reduceLeDiff, Nat.sub_zero, ep])
          exact hk X _ _ out (Ce.le_refl _) (hset 10)
        | false =>
          (try simp (maxSteps := 1000000) (dsimp := false) (disch := (first | omega | (simp only [okR]; done) | (simp only [sizeR] <;> omega) | fail)) only [↓preR, postR, ↓w_join, Nat.reduceEqDiff, Nat.reduceAdd, Nat.reduceSub, Nat.reduceMul, Int.reduceNeg, Nat.reduceLT, Int.reduceToNat, Nat.reduceLeDiff, Nat.sub_zero])
          exact fin (by rw [hm]; simp) _ h1
      · (simp (maxSteps := 1000000) (dsimp := false) (disch := (first | omega | (simp only [okR]; done) | (simp only [sizeR] <;> omega) | fail)) only [↓preR, postR, ↓w_join, Nat.reduceEqDiff, Nat.reduceAdd, Nat.reduceSub, Nat.reduceMul, Int.reduceNeg, Nat.reduceLT, Int.reduceToNat, Nat.reduceLeDiff, Nat.sub_zero, F20, Option.getD_some])
        exact fin (fun h => h0 h.1) _ h
    by_cases h0 : way = 0
    · (simp (maxSteps := 1000000) (dsimp := false) (disch := (first | omega | (simp only [okR]; done) | (simp only [sizeR] <;> omega) | fail)) only [↓preR, postR, ↓w_join, Nat.reduceEqDiff, Nat.reduceAdd, Nat.reduceSub, Nat.reduceMul, Int.reduceNeg, Nat.reduceLT, Int.reduceToNat, Nat.reduceLeDiff, Nat.sub_zero, F20, Option.getD_some])
      refine meta_c (c := c) rfl h fun s1 h1 => ?_
      cases hm : metaB c with
      | true =>
        rw [if_pos ⟨h0, hm⟩] at hk
        obtain ⟨u, ep, hlt, ⟨ua, un, uc, rfl⟩, hset⟩ := rdr_set h1
        (try simp (maxSteps := 1000000) (dsimp := false) (disch := (first | omega | (simp only [okR]; done) | (simp only [sizeR] <;> omega) | fail)) only [↓preR, postR, ↓w_join, Nat.reduceEqDiff, Nat.reduceAdd, Nat.reduceSub, Nat.reduceMul, Int.reduceNeg, Nat.reduceLT, Int.reduceToNat, Nat.reduceLeDiff, Nat.sub_zero, ep])
        exact hk X _ _ out (Ce.le_refl _) (hset 10)
      | false =>
        (try simp (maxSteps := 1000000) (dsimp := false) (disch := (first | omega | (simp only [okR]; done) | (simp only [sizeR] <;> omega) | fail)) only [↓preR, postR, ↓w_join, Nat.reduceEqDiff, Nat.reduceAdd, Nat.reduceSub, Nat.reduceMul, Int.reduceNeg, Nat.reduceLT, Int.reduceToNat, Nat.reduceLeDiff, Nat.sub_zero])
        exact fin (by rw [hm]; simp) _ h1
    · (simp (maxSteps := 1000000) (dsimp := false) (disch := (first | omega | (simp only [okR]; done) | (simp only [sizeR] <;> omega) | fail)) only [↓preR, postR, ↓w_join, Nat.reduceEqDiff, Nat.reduceAdd, Nat.reduceSub, Nat.reduceMul, Int.reduceNeg, Nat.reduceLT, Int.reduceToNat, Nat.reduceLeDiff, Nat.sub_zero, F20, Option.getD_some])
      exact fin (fun h => h0 h.1) _ h
  | cons x r =>
    have hlen : (c :: x :: r).length = r.length + 2 := rfl
    have hmid : ((c :: x :: r).drop 1).take (r.length + 2 - 1 - 1) = mid (c :: x :: r) := by unfold mid; rw [hlen]; rfl
    have hmid2 : (x :: r).take (r.length + 2 - 1 - 1) = mid (c :: x :: r) := hmid
    have hml : (mid (c :: x :: r)).length = r.length := by rw [mid_len, hlen]; omega
    have hr0 : ¬ (x :: r = []) := by simp
    have u39 : (39 : UInt8).toNat = 39 := rfl
    have u34 : (34 : UInt8).toNat = 34 := rfl
    have u36 : (36 : UInt8).toNat = 36 := rfl
    have u123 : (123 : UInt8).toNat = 123 := rfl
    have u40 : (40 : UInt8).toNat = 40 := rfl
    rw [thing_eq] at hk
    rw [hlen] at hs hsf
    rcases hsh with ⟨rfl, rfl⟩ | rfl | rfl | ⟨rfl, hx, hr⟩
    · rw [if_pos rfl] at hk
      (simp (maxSteps := 1000000) (dsimp := false) (disch := (first | omega | (simp only [okR]; done) | (simp only [sizeR] <;> omega) | fail)) only [↓preR, postR, ↓w_join, Nat.reduceEqDiff, Nat.reduceAdd, Nat.reduceSub, Nat.reduceMul, Int.reduceNeg, Nat.reduceLT, Int.reduceToNat, Nat.reduceLeDiff, Nat.sub_zero, F20])
      exact pair_c hf (by omega) hw (.inr ⟨x, rfl⟩) h (ok hk)
    · rw [if_neg (by decide), if_neg hr0, if_pos rfl] at hk
      (simp (maxSteps := 1000000) (dsimp := false) (disch := (first | omega | (simp only [okR]; done) | (simp only [sizeR] <;> omega) | fail)) only [↓preR, postR, ↓w_join, Nat.reduceEqDiff, Nat.reduceAdd, Nat.reduceSub, Nat.reduceMul, Int.reduceNeg, Nat.reduceLT, Int.reduceToNat, Nat.reduceLeDiff, Nat.sub_zero, F20, Option.getD_some, hlen, hmid2])
      exact lit_c hf (by omega) h (ok hk)
    · rw [if_neg (by decide), if_neg hr0, if_neg (by decide), if_pos rfl] at hk
      (simp (maxSteps := 1000000) (dsimp := false) (disch := (first | omega | (simp only [okR]; done) | (simp only [sizeR] <;> omega) | fail)) only [↓preR, postR, ↓w_join, Nat.reduceEqDiff, Nat.reduceAdd, Nat.reduceSub, Nat.reduceMul, Int.reduceNeg, Nat.reduceLT, Int.reduceToNat, Nat.reduceLeDiff, Nat.sub_zero, F20, Option.getD_some, hlen, hmid2])
      exact inner_c ih (by omega) (by omega) hf hn h hk.any
    · rw [if_neg (by decide), if_neg hr0, if_neg (by decide), if_neg (by decide)] at hk
      have hrl : 1 ≤ r.length := List.length_pos_iff.2 hr
      rcases hx with rfl | rfl
      · rw [if_pos (show (((123 : UInt8) :: r).head? = some 123) from rfl)] at hk
        have hbt : r.take (r.length + 2 - 1 - 2) = (((123 : UInt8) :: r).drop 1).take (((123 : UInt8) :: r).length - 2) := by
          show r.take _ = r.take _
          congr 1
        have hbl : (r.take (r.length + 2 - 1 - 2)).length ≤ r.length := by rw [List.length_take]; omega
        rw [← hbt] at hk
        (simp (maxSteps := 1000000) (dsimp := false) (disch := (first | omega | (simp only [okR]; done) | (simp only [sizeR] <;> omega) | fail)) only [↓preR, postR, ↓w_join, Nat.reduceEqDiff, Nat.reduceAdd, Nat.reduceSub, Nat.reduceMul, Int.reduceNeg, Nat.reduceLT, Int.reduceToNat, Nat.reduceLeDiff, Nat.sub_zero, F20, Option.getD_some, hlen])
        exact brace_c ih (by omega) (by omega) hw hf (by omega) h hk.any
      · rw [if_neg (by simp)] at hk
        have hbt : ((40 : UInt8) :: r).take (r.length + 2 - 1) = 40 :: r := List.take_of_length_le (by simp)
        (simp (maxSteps := 1000000) (dsimp := false) (disch := (first | omega | (simp only [okR]; done) | (simp only [sizeR] <;> omega) | fail)) only [↓preR, postR, ↓w_join, Nat.reduceEqDiff, Nat.reduceAdd, Nat.reduceSub, Nat.reduceMul, Int.reduceNeg, Nat.reduceLT, Int.reduceToNat, Nat.reduceLeDiff, Nat.sub_zero, F20, Option.getD_some, hlen, hbt])
        refine within_c hw ?_
        (try simp (maxSteps := 1000000) (dsimp := false) (disch := (first | omega | (simp only [okR]; done) | (simp only [sizeR] <;> omega) | fail)) only [↓preR, postR, ↓w_join, Nat.reduceEqDiff, Nat.reduceAdd, Nat.reduceSub, Nat.reduceMul, Int.reduceNeg, Nat.reduceLT, Int.reduceToNat, Nat.reduceLeDiff, Nat.sub_zero])
        exact run_c hf (by simp only [List.length_cons]; omega) (by simp only [List.length_cons]; omega) h (ok hk)
theorem Rdr.new (h : Hs σ X R) : Hs (σ.new (.cells [.slice none 0 0, .int .i64 0])) X (Rdr σ.n [] 0 :: R) :=
  Hs.closed (f := fun u => [Cel σ.n [u, .int .i64 0], E.Own (α := Pt) u []]) (.slice none 0 0) trivial (Hs.own0 (α := Pt) h.new).swap
end
end Go.Proofs.YtmgdkoidgoihfaaDoor

/- Words: a text is read; a word; a text in place. Conditions: as each theorem says. -/
namespace Go.Proofs.YtmgdkoidgoihfaaDoor
open E Go.Lib
open Go.RowKit
set_option linter.unusedVariables false
set_option linter.unusedSimpArgs false
set_option maxHeartbeats 1000000
set_option maxRecDepth 20000

section
variable {σ σ' : AS} {X : Ce} {R : List Ck} {k : Value → AS → Prop} {p n i f : Nat} {e : Int} {out : List Pt} {s t : Str} {c : UInt8} {way : Nat} {q : Bool}
theorem rd_nil (g : Nat) (way : Nat) (out : List Pt) : rdP (g + 1) [] way out = .ok out := rfl
theorem rd_cons (g : Nat) (c : UInt8) (t : Str) (way : Nat) (out : List Pt) : rdP (g + 1) (c :: t) way out =
      if c = 36 ∧ 0 < namedN t then rdP g (t.drop (namedN t)) way (addP out (varP (t.take (namedN t)) way 0 false []))
      else match go FU none (c :: t) (qOf c way) (!qOf c way) false 0 with
        | .ok n =>
          match thingP (fun s w => rdP g s w []) ((c :: t).take n) way out with
          | .ok out' => rdP g ((c :: t).drop n) way out'
          | .bad e => .bad e
        | .bad e _ => .bad e
        | .cut => .bad 0 := rfl
theorem read_c : ∀ f, RdC f := by
  intro f
  induction f using Nat.strongRecOn with
  | ind f ih =>
    intro σ X R k s way hsf hs hw h hk
    refine f15 ?_
    have h1 := Rdr.new h
    (try simp (maxSteps := 1000000) (dsimp := false) (disch := (first | omega | (simp only [okR]; done) | (simp only [sizeR] <;> omega) | fail)) only [↓preR, postR, ↓w_stop, Nat.reduceEqDiff, Nat.reduceAdd, Nat.reduceSub, Nat.reduceMul, Int.reduceNeg, Nat.reduceLT, Int.reduceToNat, Nat.reduceLeDiff, Nat.sub_zero, F15])
    generalize AS.new σ _ = s1 at h1 ⊢
    generalize σ.n = p at h1 ⊢
    refine join_by fun J1 hJ1 => ?_
    have tail1 : ∀ X' s2 out, Ce.le X X' → rdP f s way [] = .ok out → Hs s2 X' (Rdr p out 0 :: R) → J1 [] s2 := by
      intro X' s2 out hX hr h2
      rw [hr] at hk
      refine hJ1 _ _ ?_
      clear hJ1
      obtain ⟨u, _, h2⟩ := h2.opened
      have h2 : Hs s2 X' (Cel p [u, .int .i64 0] :: E.Own (α := Pt) u out :: R) := h2
      (try simp (maxSteps := 1000000) (dsimp := false) (disch := (first | omega | (simp only [okR]; done) | (simp only [sizeR] <;> omega) | fail)) only [↓preR, postR, ↓w_stop, Nat.reduceEqDiff, Nat.reduceAdd, Nat.reduceSub, Nat.reduceMul, Int.reduceNeg, Nat.reduceLT, Int.reduceToNat, Nat.reduceLeDiff, Nat.sub_zero, h2.obj])
      obtain ⟨X2, hX2, hr2, h3⟩ := h2.drop.keep
      exact hk X2 _ _ (Ce.le_trans hX hX2) hr2 h3
    clear hJ1
    (try simp (maxSteps := 1000000) (dsimp := false) (disch := (first | omega | (simp only [okR]; done) | (simp only [sizeR] <;> omega) | fail)) only [↓preR, postR, ↓w_stop, Nat.reduceEqDiff, Nat.reduceAdd, Nat.reduceSub, Nat.reduceMul, Int.reduceNeg, Nat.reduceLT, Int.reduceToNat, Nat.reduceLeDiff, Nat.sub_zero])
    refine loop_inv (fun nn xs s2 => ∃ (X1 : Ce) (j g : Nat) (o1 : List Pt), xs = [.int .i64 j] ∧ Ce.le X X1 ∧ j ≤ s.length ∧ s.length - j < g ∧ g ≤ f ∧ FitW o1 j ∧ Hs s2 X1 (Rdr p o1 0 :: R) ∧ rdP g (s.drop j) way o1 = rdP f s way [] ∧ nn = s.length - j) _
      ⟨X, 0, f, [], rfl, Ce.le_refl _, Nat.zero_le _, by omega, Nat.le_refl _, ⟨Nat.zero_le _, Nat.zero_le _⟩, h1, rfl, rfl⟩ ?_
    rintro _ _ s2 again ⟨X1, j, g, o1, rfl, hX1, hj, hg, hgf, hf, h2, hr, rfl⟩ hag
    obtain ⟨g, rfl⟩ : ∃ g', g = g' + 1 := ⟨g - 1, by omega⟩
    (try simp (maxSteps := 1000000) (dsimp := false) (disch := (first | omega | (simp only [okR]; done) | (simp only [sizeR] <;> omega) | fail)) only [↓preR, postR, ↓w_stop, Nat.reduceEqDiff, Nat.reduceAdd, Nat.reduceSub, Nat.reduceMul, Int.reduceNeg, Nat.reduceLT, Int.reduceToNat, Nat.reduceLeDiff, Nat.sub_zero])
    refine join_now ?_
    by_cases hlt : j < s.length
    rotate_left
    · rw [List.drop_of_length_le (by omega), rd_nil] at hr
      (try simp (maxSteps := 1000000) (dsimp := false) (disch := (first | omega | (simp only [okR]; done) | (simp only [sizeR] <;> omega) | fail)) only [↓preR, postR, ↓w_stop, Nat.reduceEqDiff, Nat.reduceAdd, Nat.reduceSub, Nat.reduceMul, Int.reduceNeg, Nat.reduceLT, Int.reduceToNat, Nat.reduceLeDiff, Nat.sub_zero])
      exact tail1 X1 s2 o1 hX1 hr.symm h2
    rw [drop_c hlt, rd_cons] at hr
    have hgd : (s[j]?.getD 0) = s[j] := by simp [hlt]
    (try simp (maxSteps := 1000000) (dsimp := false) (disch := (first | omega | (simp only [okR]; done) | (simp only [sizeR] <;> omega) | fail)) only [↓preR, postR, ↓w_stop, Nat.reduceEqDiff, Nat.reduceAdd, Nat.reduceSub, Nat.reduceMul, Int.reduceNeg, Nat.reduceLT, Int.reduceToNat, Nat.reduceLeDiff, Nat.sub_zero, hgd])
    refine join_by fun J4 hJ4 => ?_
    have tail4 : ∀ s3, ¬ (s[j] = 36 ∧ 0 < namedN (s.drop (j + 1))) → Hs s3 X1 (Rdr p o1 0 :: R) → J4 [.int .i64 j] s3 := by
      intro s3 hc h3
      rw [if_neg hc] at hr
      refine hJ4 _ _ ?_
      clear hJ4
      (try simp (maxSteps := 1000000) (dsimp := false) (disch := (first | omega | (simp only [okR]; done) | (simp only [sizeR] <;> omega) | fail)) only [↓preR, postR, ↓w_stop, Nat.reduceEqDiff, Nat.reduceAdd, Nat.reduceSub, Nat.reduceMul, Int.reduceNeg, Nat.reduceLT, Int.reduceToNat, Nat.reduceLeDiff, Nat.sub_zero])
      refine wend_c (by omega) hlt hw h3 ?_
      rw [drop_c hlt]
      cases hgo : go FU none (s[j] :: s.drop (j + 1)) (qOf s[j] way) (!qOf s[j] way) false 0 with
      | cut => trivial
      | bad e' b =>
        rw [hgo] at hr
        simp only at hr
        rw [← hr] at hk
        intro he s4 h4
        (try simp (maxSteps := 1000000) (dsimp := false) (disch := (first | omega | (simp only [okR]; done) | (simp only [sizeR] <;> omega) | fail)) only [↓preR, postR, ↓w_stop, Nat.reduceEqDiff, Nat.reduceAdd, Nat.reduceSub, Nat.reduceMul, Int.reduceNeg, Nat.reduceLT, Int.reduceToNat, Nat.reduceLeDiff, Nat.sub_zero])
        refine join_now ?_
        (try simp (maxSteps := 1000000) (dsimp := false) (disch := (first | omega | (simp only [okR]; done) | (simp only [sizeR] <;> omega) | fail)) only [↓preR, postR, ↓w_stop, Nat.reduceEqDiff, Nat.reduceAdd, Nat.reduceSub, Nat.reduceMul, Int.reduceNeg, Nat.reduceLT, Int.reduceToNat, Nat.reduceLeDiff, Nat.sub_zero, he])
        exact hk X1 _ hX1 h4.drop
      | ok m =>
        rw [hgo] at hr
        simp only at hr
        have hsh : Shape ((s[j] :: s.drop (j + 1)).take m) := go_shape (f := 2099999) hgo
        have hm := go_ok hgo
        rw [← drop_c hlt] at hm hsh hr
        rw [List.length_drop] at hm
        have htl : ((s.drop j).take m).length = m := by rw [List.length_take, List.length_drop]; omega
        intro s4 h4
        have hsub : (s.drop j).take (j + m - j) = (s.drop j).take m := by rw [show j + m - j = m from by omega]
        (try simp (maxSteps := 1000000) (dsimp := false) (disch := (first | omega | (simp only [okR]; done) | (simp only [sizeR] <;> omega) | fail)) only [↓preR, postR, ↓w_stop, Nat.reduceEqDiff, Nat.reduceAdd, Nat.reduceSub, Nat.reduceMul, Int.reduceNeg, Nat.reduceLT, Int.reduceToNat, Nat.reduceLeDiff, Nat.sub_zero])
        refine join_now ?_
        (try simp (maxSteps := 1000000) (dsimp := false) (disch := (first | omega | (simp only [okR]; done) | (simp only [sizeR] <;> omega) | fail)) only [↓preR, postR, ↓w_stop, Nat.reduceEqDiff, Nat.reduceAdd, Nat.reduceSub, Nat.reduceMul, Int.reduceNeg, Nat.reduceLT, Int.reduceToNat, Nat.reduceLeDiff, Nat.sub_zero, hsub, Nat.add_sub_cancel_left])
        have hne : ∀ e', thingP (fun s w => rdP g s w []) ((s.drop j).take m) way o1 = .bad e' → ¬ e' = 0 := fun e' he => thing_ne (fun s' w e hs' he => rd_ne g s' w [] e (by omega) he) he
        refine wthing_c (f := g) (n := j) (ih g (by omega)) hsh (by omega) (by omega) hw hf (by omega) h4 ?_
        cases hth : thingP (fun s w => rdP g s w []) ((s.drop j).take m) way o1 with
        | bad e' =>
          rw [hth] at hr
          simp only at hr
          rw [← hr] at hk
          intro X2 w s5 o2 hX2 h5
          have he := hne e' hth
          obtain ⟨u, ep, hlt', ⟨ua, un, uc, rfl⟩, hset⟩ := rdr_set h5
          (try simp (maxSteps := 1000000) (dsimp := false) (disch := (first | omega | (simp only [okR]; done) | (simp only [sizeR] <;> omega) | fail)) only [↓preR, postR, ↓w_stop, Nat.reduceEqDiff, Nat.reduceAdd, Nat.reduceSub, Nat.reduceMul, Int.reduceNeg, Nat.reduceLT, Int.reduceToNat, Nat.reduceLeDiff, Nat.sub_zero])
          refine join_now ?_
          (try simp (maxSteps := 1000000) (dsimp := false) (disch := (first | omega | (simp only [okR]; done) | (simp only [sizeR] <;> omega) | fail)) only [↓preR, postR, ↓w_stop, Nat.reduceEqDiff, Nat.reduceAdd, Nat.reduceSub, Nat.reduceMul, Int.reduceNeg, Nat.reduceLT, Int.reduceToNat, Nat.reduceLeDiff, Nat.sub_zero, ep, he])
          exact hk X2 _ (Ce.le_trans hX1 hX2) h5.drop
        | ok o2 =>
          rw [hth] at hr
          simp only [List.drop_drop] at hr
          have hf2 := thing_fit (n := j) (fun s' w l hs' hl => by
            have := rd_fit g s' w 0 [] l ⟨by simp, by simp [txt]⟩ hl
            rwa [Nat.zero_add] at this) hf hth (fun _ => by rw [htl]; omega)
          rw [htl] at hf2
          intro X2 w s5 hX2 h5
          obtain ⟨u, ep, hlt', ⟨ua, un, uc, rfl⟩, hset⟩ := rdr_set h5
          (try simp (maxSteps := 1000000) (dsimp := false) (disch := (first | omega | (simp only [okR]; done) | (simp only [sizeR] <;> omega) | fail)) only [↓preR, postR, ↓w_stop, Nat.reduceEqDiff, Nat.reduceAdd, Nat.reduceSub, Nat.reduceMul, Int.reduceNeg, Nat.reduceLT, Int.reduceToNat, Nat.reduceLeDiff, Nat.sub_zero])
          refine join_now ?_
          (try simp (maxSteps := 1000000) (dsimp := false) (disch := (first | omega | (simp only [okR]; done) | (simp only [sizeR] <;> omega) | fail)) only [↓preR, postR, ↓w_stop, Nat.reduceEqDiff, Nat.reduceAdd, Nat.reduceSub, Nat.reduceMul, Int.reduceNeg, Nat.reduceLT, Int.reduceToNat, Nat.reduceLeDiff, Nat.sub_zero, ep])
          exact hag _ _ _ ⟨X2, j + m, g, o2, rfl, Ce.le_trans hX1 hX2, by omega, by omega, by omega, hf2, h5, hr, rfl⟩ (by omega)
    clear hJ4
    have i36 := u8_eq (c := s[j]) (x := 36) (n := 36) rfl
    by_cases h36 : s[j].toNat = 36
    · have hsd : (s.drop j).take (s.length - j) = 36 :: s.drop (j + 1) := by
        rw [List.take_of_length_le (by simp), drop_c hlt, i36.2 h36]
      (try simp (maxSteps := 1000000) (dsimp := false) (disch := (first | omega | (simp only [okR]; done) | (simp only [sizeR] <;> omega) | fail)) only [↓preR, postR, ↓w_stop, Nat.reduceEqDiff, Nat.reduceAdd, Nat.reduceSub, Nat.reduceMul, Int.reduceNeg, Nat.reduceLT, Int.reduceToNat, Nat.reduceLeDiff, Nat.sub_zero, hgd, hsd])
      refine within_c hw ?_
      (try simp (maxSteps := 1000000) (dsimp := false) (disch := (first | omega | (simp only [okR]; done) | (simp only [sizeR] <;> omega) | fail)) only [↓preR, postR, ↓w_stop, Nat.reduceEqDiff, Nat.reduceAdd, Nat.reduceSub, Nat.reduceMul, Int.reduceNeg, Nat.reduceLT, Int.reduceToNat, Nat.reduceLeDiff, Nat.sub_zero, hsd])
      have hdl : (s.drop (j + 1)).length = s.length - (j + 1) := List.length_drop
      have hnl := named_le (s.drop (j + 1))
      refine wdollar_c hf (by omega) h2 (fun hz => ?_) (fun hz s3 h3 => ?_)
      · (try simp (maxSteps := 1000000) (dsimp := false) (disch := (first | omega | (simp only [okR]; done) | (simp only [sizeR] <;> omega) | fail)) only [↓preR, postR, ↓w_stop, Nat.reduceEqDiff, Nat.reduceAdd, Nat.reduceSub, Nat.reduceMul, Int.reduceNeg, Nat.reduceLT, Int.reduceToNat, Nat.reduceLeDiff, Nat.sub_zero])
        exact tail4 s2 (fun h => by omega) h2
      · rw [if_pos ⟨i36.2 h36, hz⟩, List.drop_drop] at hr
        generalize hnn : namedN (s.drop (j + 1)) = m at *
        have hf2 := hf.add (p := varP ((s.drop (j + 1)).take m) way 0 false []) (m := 1 + m) (by simp only [varP, Pt.text, List.length_take]; omega) (by omega)
        (try simp (maxSteps := 1000000) (dsimp := false) (disch := (first | omega | (simp only [okR]; done) | (simp only [sizeR] <;> omega) | fail)) only [↓preR, postR, ↓w_stop, Nat.reduceEqDiff, Nat.reduceAdd, Nat.reduceSub, Nat.reduceMul, Int.reduceNeg, Nat.reduceLT, Int.reduceToNat, Nat.reduceLeDiff, Nat.sub_zero])
        refine hag _ _ _ ⟨X1, j + (1 + m), g, _, rfl, hX1, by omega, by omega, by omega, hf2, h3, ?_, rfl⟩ (by omega)
        rw [← hr, show j + 1 + m = j + (1 + m) from by omega]
    · (try simp (maxSteps := 1000000) (dsimp := false) (disch := (first | omega | (simp only [okR]; done) | (simp only [sizeR] <;> omega) | fail)) only [↓preR, postR, ↓w_stop, Nat.reduceEqDiff, Nat.reduceAdd, Nat.reduceSub, Nat.reduceMul, Int.reduceNeg, Nat.reduceLT, Int.reduceToNat, Nat.reduceLeDiff, Nat.sub_zero, hgd])
      exact tail4 s2 (fun h => h36 (i36.1 h.1)) h2
/-- A word's parts. -/
theorem parse_c (h : Hs σ X R) (hk : WK X R k (wordW s 0)) (hs : s.length ≤ maxLen) : kCall Tryd.prog 10 [.string (bs s)] σ k := by
  unfold wordW at hk
  unfold maxLen at hs
  refine f10 ?_
  (try simp (maxSteps := 1000000) (dsimp := false) (disch := (first | omega | (simp only [okR]; done) | (simp only [sizeR] <;> omega) | fail)) only [↓preR, postR, ↓w_stop, Nat.reduceEqDiff, Nat.reduceAdd, Nat.reduceSub, Nat.reduceMul, Int.reduceNeg, Nat.reduceLT, Int.reduceToNat, Nat.reduceLeDiff, Nat.sub_zero, F10])
  refine join_now ?_
  by_cases hl : 4096 < s.length
  · rw [if_pos hl] at hk
    (try simp (maxSteps := 1000000) (dsimp := false) (disch := (first | omega | (simp only [okR]; done) | (simp only [sizeR] <;> omega) | fail)) only [↓preR, postR, ↓w_stop, Nat.reduceEqDiff, Nat.reduceAdd, Nat.reduceSub, Nat.reduceMul, Int.reduceNeg, Nat.reduceLT, Int.reduceToNat, Nat.reduceLeDiff, Nat.sub_zero])
    exact hk X _ (Ce.le_refl _) h
  · rw [if_neg hl] at hk
    (try simp (maxSteps := 1000000) (dsimp := false) (disch := (first | omega | (simp only [okR]; done) | (simp only [sizeR] <;> omega) | fail)) only [↓preR, postR, ↓w_stop, Nat.reduceEqDiff, Nat.reduceAdd, Nat.reduceSub, Nat.reduceMul, Int.reduceNeg, Nat.reduceLT, Int.reduceToNat, Nat.reduceLeDiff, Nat.sub_zero])
    refine read_c (s.length + 1) (way := 0) (by omega) (by omega) (by omega) h ?_
    cases hr : rdP (s.length + 1) s 0 [] with
    | ok w =>
      rw [hr] at hk
      intro X' v s1 hX hv h1
      (try simp (maxSteps := 1000000) (dsimp := false) (disch := (first | omega | (simp only [okR]; done) | (simp only [sizeR] <;> omega) | fail)) only [↓preR, postR, ↓w_stop, Nat.reduceEqDiff, Nat.reduceAdd, Nat.reduceSub, Nat.reduceMul, Int.reduceNeg, Nat.reduceLT, Int.reduceToNat, Nat.reduceLeDiff, Nat.sub_zero])
      exact hk X' v _ hX hv h1
    | bad e =>
      rw [hr] at hk
      intro X' s1 hX h1
      (try simp (maxSteps := 1000000) (dsimp := false) (disch := (first | omega | (simp only [okR]; done) | (simp only [sizeR] <;> omega) | fail)) only [↓preR, postR, ↓w_stop, Nat.reduceEqDiff, Nat.reduceAdd, Nat.reduceSub, Nat.reduceMul, Int.reduceNeg, Nat.reduceLT, Int.reduceToNat, Nat.reduceLeDiff, Nat.sub_zero])
      exact hk X' _ hX h1
end
end Go.Proofs.YtmgdkoidgoihfaaDoor
