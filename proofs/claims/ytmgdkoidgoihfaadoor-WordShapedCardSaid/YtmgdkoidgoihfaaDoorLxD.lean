/- A text gone through: a thing. Conditions: as each theorem says. -/
import Derived.Test.YtmgdkoidgoihfaaDoorLxC
namespace Go.Proofs.YtmgdkoidgoihfaaDoor
open E Go.Lib
set_option linter.unusedVariables false
set_option linter.unusedSimpArgs false
set_option maxHeartbeats 1000000
set_option maxRecDepth 20000

theorem go_n (f : Nat) (c : UInt8) (t : Str) (q d b : Bool) (deep : Nat) : go (f + 1) none (c :: t) q d b deep =
      if c = 92 then .ok (if t = [] then 1 else 2)
      else if c = 39 ∧ q = false then (match posB 39 t with | some n => .ok (n + 2) | none => .bad 11 0)
      else if c = 34 ∧ d = true then shut 0 1 deep (go f (some 34) t true false false (deep + 1))
      else if c = 40 ∧ b = true then shut 0 1 deep (go f (some 41) t false true true (deep + 1))
      else if c = 36 then
        (match t with
        | [] => .ok 1
        | x :: r => if x = 123 then shut 0 2 deep (go f (some 125) r q true false (deep + 1))
          else if x = 40 then shut 1 2 deep (go f (some 41) r false true true (deep + 1))
          else .ok 1)
      else if c = 96 then .bad 10 0
      else .ok 1 := by
  conv => lhs; unfold go
  rfl
theorem shut_add (deep : Nat) (r : Rd) : (shut 0 1 deep r).add 1 = shut 1 2 deep r := by
  unfold shut
  split
  · rfl
  · cases r <;> simp [Rd.add] <;> omega
section
variable {σ σ' : AS} {X : Ce} {R : List Ck} {C : Ck} {k : Value → AS → Prop} {p i bat deep f m n : Nat} {s pre : Str} {rest : List Value} {c e : UInt8} {q d b : Bool} {r : Rd}
theorem RdK.shift (h : RdK X R p s i bat deep rest k (r.add m)) : RdK X R p s (i + m) bat deep rest k r := by
  cases r with
  | ok n => intro w σ' h1; exact h w σ' (by rw [show i + (m + n) = i + m + n from by omega]; exact h1)
  | bad e j => intro w σ' at' dp ha h1; exact h w σ' at' dp ha (by rw [show i + (m + j) = i + m + j from by omega]; exact h1)
  | cut => trivial
theorem RdK.junk (h : RdK X R p s i bat deep rest k r) : RdK X (C :: R) p s i bat deep rest k r := by
  cases r with
  | ok n => intro w σ' h1; exact h w σ' h1.swap.drop
  | bad e j => intro w σ' at' dp ha h1; exact h w σ' at' dp ha h1.swap.drop
  | cut => trivial
theorem RdK.any (h : RdK X R p s i bat deep rest k r) : RdK X R p s i bat deep rest (fun _ σ => k undef σ) r := by
  cases r with
  | ok n => exact fun w σ' h1 => h undef σ' h1
  | bad e j => exact fun w σ' at' dp ha h1 => h undef σ' at' dp ha h1
  | cut => trivial
theorem tk_hd {x : UInt8} (h : i < s.length) : (s.drop i).take 1 = [x] ↔ s[i] = x := by
  rw [drop_c h]; simp [List.take]
theorem bracket_c (ih : ∀ g, g < f → ThC g) (hf : 2 * (s.length - (i + 1)) + 2 ≤ f) (hi : i < s.length) (hd : deep ≤ 40) (hs : s.length ≤ 1000000) (h : Hs σ X (Cel p (rdC 0 bat s i deep rest) :: R))
    (hk : RdK X R p s i bat deep rest k (shut 0 1 deep (go f (some 41) (s.drop (i + 1)) false true true (deep + 1)))) : kCall Tryd.prog 54 [pv p] σ k := by
  refine f54 ?_
  have h1 := (h.new (cs := [pv p])).swap
  have h2 := h1.put (cs' := rdC 0 bat s ((i : Int) + 1) deep rest)
  (simp (maxSteps := 1000000) (dsimp := false) (disch := (first | omega | (simp only [okR]; done) | (simp only [sizeR] <;> omega) | fail)) only [↓preR, postR, ↓w_join, Nat.reduceEqDiff, Nat.reduceAdd, Nat.reduceSub, Nat.reduceMul, Int.reduceNeg, Nat.reduceLT, Int.reduceToNat, Nat.reduceLeDiff, Nat.sub_zero, F54, h1.obj, h1.obj1, h2.obj, h2.obj1])
  generalize AS.put _ p _ = s2 at h2 ⊢
  generalize σ.n = cb at h2 ⊢
  refine until_c (i := i) (m := 0) (n := 1) (f := f) (e := 41) (q := false) (d := true) (b := true) h2 rfl hd hs (by omega) (by omega) hf ?_ hk.junk.any
  intro s3 k1 i1 g hg hi1 hg2 hd1 h3 hk1
  refine ⟨k67_ok, ?_⟩
  refine f67 ?_
  (simp (maxSteps := 1000000) (dsimp := false) (disch := (first | omega | (simp only [okR]; done) | (simp only [sizeR] <;> omega) | fail)) only [↓preR, postR, ↓w_join, Nat.reduceEqDiff, Nat.reduceAdd, Nat.reduceSub, Nat.reduceMul, Int.reduceNeg, Nat.reduceLT, Int.reduceToNat, Nat.reduceLeDiff, Nat.sub_zero, F67, h3.obj1])
  exact ih g hg hg2 hi1 hd1 hs h3 hk1.any
theorem dollar_c (ih : ∀ g, g < f → ThC g) (hf : 2 * (s.length - (i + 1)) + 2 ≤ f) (hi : i < s.length) (hd : deep ≤ 40) (hs : s.length ≤ 1000000) (h : Hs σ X (Cel p (rdC 0 bat s i deep rest) :: R))
    (hk : RdK X R p s i bat deep rest k (match s.drop (i + 1) with
        | [] => .ok 1
        | x :: r => if x = 123 then shut 0 2 deep (go f (some 125) r q true false (deep + 1))
          else if x = 40 then shut 1 2 deep (go f (some 41) r false true true (deep + 1))
          else .ok 1)) : kCall Tryd.prog 55 [pv p, .bool q] σ k := by
  refine f55 ?_
  have h1 := (h.new (cs := [pv p])).swap
  have h1' := (h1.new (cs := [.bool q])).swap
  have h2 := h1'.put (cs' := rdC 0 bat s ((i : Int) + 1) deep rest)
  have e2 := (h1'.front 2 rfl).obj
  have e3 := (h2.front 2 rfl).obj
  (simp (maxSteps := 1000000) (dsimp := false) (disch := (first | omega | (simp only [okR]; done) | (simp only [sizeR] <;> omega) | fail)) only [↓preR, postR, ↓w_join, Nat.reduceEqDiff, Nat.reduceAdd, Nat.reduceSub, Nat.reduceMul, Int.reduceNeg, Nat.reduceLT, Int.reduceToNat, Nat.reduceLeDiff, Nat.sub_zero, F55, h1'.obj, e2, h2.obj, e3, drop_all])
  generalize AS.put _ p _ = s2 at h2 e3 ⊢
  generalize (AS.new σ _).n = cq at h2 ⊢
  generalize σ.n = cb at h2 e3 ⊢
  refine pref_c (pre := [123]) (by rw [List.length_drop]; unfold maxLen; omega) ?_
  have h2' : Hs s2 X (Cel p (rdC 0 bat s ((i + 1 : Nat) : Int) deep rest) :: Cel cq [.bool q] :: Cel cb [pv p] :: R) := h2
  by_cases hlt : i + 1 < s.length
  · rw [drop_c hlt] at hk
    by_cases hx : s[i + 1] = 123
    · simp only [hx, if_true] at hk
      have h4 := h2.put (cs' := rdC 0 bat s ((i : Int) + 1 + 1) deep rest)
      have e4 := (h4.front 2 rfl).obj
      have et : ((s.drop (i + 1)).take 1 = [123]) = True := eq_true ((tk_hd hlt).2 hx)
      (simp (maxSteps := 1000000) (dsimp := false) (disch := (first | omega | (simp only [okR]; done) | (simp only [sizeR] <;> omega) | fail)) only [↓preR, postR, ↓w_join, Nat.reduceEqDiff, Nat.reduceAdd, Nat.reduceSub, Nat.reduceMul, Int.reduceNeg, Nat.reduceLT, Int.reduceToNat, Nat.reduceLeDiff, Nat.sub_zero, et, h2.obj, e3, h4.obj, e4])
      generalize AS.put _ p _ = s3 at h4 e4 ⊢
      refine until_c (i := i) (m := 0) (n := 2) (f := f) (e := 125) (q := q) (d := true) (b := false) h4 rfl hd hs (by omega) (by omega) (by omega) ?_ hk.junk.junk.any
      intro s4 k1 i1 g hg hi1 hg2 hd1 h3 hk1
      refine ⟨k68_ok, ?_⟩
      refine f68 ?_
      have e5 := (h3.front 2 rfl).obj
      (simp (maxSteps := 1000000) (dsimp := false) (disch := (first | omega | (simp only [okR]; done) | (simp only [sizeR] <;> omega) | fail)) only [↓preR, postR, ↓w_join, Nat.reduceEqDiff, Nat.reduceAdd, Nat.reduceSub, Nat.reduceMul, Int.reduceNeg, Nat.reduceLT, Int.reduceToNat, Nat.reduceLeDiff, Nat.sub_zero, F68, h3.obj1, e5])
      exact ih g hg hg2 hi1 hd1 hs h3 hk1.any
    · simp only [hx, if_false] at hk
      have et : ((s.drop (i + 1)).take 1 = [123]) = False := eq_false (fun h => hx ((tk_hd hlt).1 h))
      (simp (maxSteps := 1000000) (dsimp := false) (disch := (first | omega | (simp only [okR]; done) | (simp only [sizeR] <;> omega) | fail)) only [↓preR, postR, ↓w_join, Nat.reduceEqDiff, Nat.reduceAdd, Nat.reduceSub, Nat.reduceMul, Int.reduceNeg, Nat.reduceLT, Int.reduceToNat, Nat.reduceLeDiff, Nat.sub_zero, et, h2.obj, e3, drop_all])
      refine pref_c (pre := [40]) (by rw [List.length_drop]; unfold maxLen; omega) ?_
      by_cases hy : s[i + 1] = 40
      · simp only [hy, if_true] at hk
        have et : ((s.drop (i + 1)).take 1 = [40]) = True := eq_true ((tk_hd hlt).2 hy)
        (simp (maxSteps := 1000000) (dsimp := false) (disch := (first | omega | (simp only [okR]; done) | (simp only [sizeR] <;> omega) | fail)) only [↓preR, postR, ↓w_join, Nat.reduceEqDiff, Nat.reduceAdd, Nat.reduceSub, Nat.reduceMul, Int.reduceNeg, Nat.reduceLT, Int.reduceToNat, Nat.reduceLeDiff, Nat.sub_zero, et, e3])
        refine bracket_c (f := f) ih (by omega) hlt hd hs h2' ?_
        refine RdK.shift ?_
        rw [shut_add]
        exact hk.junk.junk.any
      · simp only [hy, if_false] at hk
        have et : ((s.drop (i + 1)).take 1 = [40]) = False := eq_false (fun h => hy ((tk_hd hlt).1 h))
        (simp (maxSteps := 1000000) (dsimp := false) (disch := (first | omega | (simp only [okR]; done) | (simp only [sizeR] <;> omega) | fail)) only [↓preR, postR, ↓w_join, Nat.reduceEqDiff, Nat.reduceAdd, Nat.reduceSub, Nat.reduceMul, Int.reduceNeg, Nat.reduceLT, Int.reduceToNat, Nat.reduceLeDiff, Nat.sub_zero, et])
        exact hk _ _ h2'.swap.drop.swap.drop
  · have e0 : s.drop (i + 1) = [] := List.drop_of_length_le (by omega)
    rw [e0] at hk
    have et : ((s.drop (i + 1)).take 1 = [123]) = False := by rw [e0]; simp
    (simp (maxSteps := 1000000) (dsimp := false) (disch := (first | omega | (simp only [okR]; done) | (simp only [sizeR] <;> omega) | fail)) only [↓preR, postR, ↓w_join, Nat.reduceEqDiff, Nat.reduceAdd, Nat.reduceSub, Nat.reduceMul, Int.reduceNeg, Nat.reduceLT, Int.reduceToNat, Nat.reduceLeDiff, Nat.sub_zero, et, h2.obj, e3, drop_all])
    refine pref_c (pre := [40]) (by rw [List.length_drop]; unfold maxLen; omega) ?_
    have et : ((s.drop (i + 1)).take 1 = [40]) = False := by rw [e0]; simp
    (simp (maxSteps := 1000000) (dsimp := false) (disch := (first | omega | (simp only [okR]; done) | (simp only [sizeR] <;> omega) | fail)) only [↓preR, postR, ↓w_join, Nat.reduceEqDiff, Nat.reduceAdd, Nat.reduceSub, Nat.reduceMul, Int.reduceNeg, Nat.reduceLT, Int.reduceToNat, Nat.reduceLeDiff, Nat.sub_zero, et])
    exact hk _ _ h2'.swap.drop.swap.drop
/-- A thing, with enough fuel. -/
theorem thing_c : ∀ f, ThC f := by
  intro f
  induction f using Nat.strongRecOn with
  | ind f ih =>
    intro σ X R k p i bat deep s rest q d b hf hi hd hs h hk
    obtain ⟨f, rfl⟩ : ∃ f', f = f' + 1 := ⟨f - 1, by omega⟩
    have ih' : ∀ g, g < f → ThC g := fun g hg => ih g (by omega)
    rw [drop_c hi, go_n] at hk
    refine f38 ?_
    have h1 := (h.new (cs := [pv p])).swap
    (simp (maxSteps := 1000000) (dsimp := false) (disch := (first | omega | (simp only [okR]; done) | (simp only [sizeR] <;> omega) | fail)) only [↓preR, postR, ↓w_join, Nat.reduceEqDiff, Nat.reduceAdd, Nat.reduceSub, Nat.reduceMul, Int.reduceNeg, Nat.reduceLT, Int.reduceToNat, Nat.reduceLeDiff, Nat.sub_zero, F38, h1.obj, h1.obj1, getd hi])
    generalize AS.new σ _ = s1 at h1 ⊢
    generalize σ.n = cb at h1 ⊢
    generalize hc : s[i] = c at hk ⊢
    have tt : ∀ (x : UInt8) (n : Int), n = x.toNat → c = x → ((c.toNat : Int) = n) = True := fun x n hn h => eq_true (by rw [hn, h])
    have ff : ∀ (x : UInt8) (n : Int), n = x.toNat → ¬ c = x → ((c.toNat : Int) = n) = False := fun x n hn h => eq_false (fun h' => h (UInt8.toNat_inj.1 (by omega)))
    have e2 : (h1.obj : _) = h1.obj := rfl
    clear e2
    by_cases c1 : c = 92
    · simp only [c1, if_true] at hk
      have e1 : (if (s.length : Int) < (i : Int) + 2 then (s.length : Int) else (i : Int) + 2) = ((i + (if s.drop (i + 1) = [] then 1 else 2) : Nat) : Int) := by
        by_cases h2 : i + 2 ≤ s.length
        · have : ¬ s.drop (i + 1) = [] := fun h => by have := congrArg List.length h; rw [List.length_drop] at this; simp at this; omega
          rw [if_neg this, if_neg (by omega)]; omega
        · have : s.drop (i + 1) = [] := List.drop_of_length_le (by omega)
          rw [if_pos this, if_pos (by omega)]; omega
      have t1 := tt 92 92 rfl c1
      (simp (maxSteps := 1000000) (dsimp := false) (disch := (first | omega | (simp only [okR]; done) | (simp only [sizeR] <;> omega) | fail)) only [↓preR, postR, ↓w_join, Nat.reduceEqDiff, Nat.reduceAdd, Nat.reduceSub, Nat.reduceMul, Int.reduceNeg, Nat.reduceLT, Int.reduceToNat, Nat.reduceLeDiff, Nat.sub_zero, h1.obj, h1.obj1, t1, ↓e1])
      exact hk _ _ h1.put.swap.drop
    have f1 := ff 92 92 rfl c1
    simp only [c1, if_false] at hk
    have nx : ∀ x : UInt8, c = x → ∀ y : UInt8, ¬ x = y → ¬ c = y := fun x h y hn h' => hn (h.symm.trans h')
    have e1 : ((i : Int) + 1) = ((i + 1 : Nat) : Int) := by omega
    by_cases c2 : c = 39
    · have t2 := tt 39 39 rfl c2
      cases q with
      | false =>
        simp only [c2, and_self, if_true] at hk
        (simp (maxSteps := 1000000) (dsimp := false) (disch := (first | omega | (simp only [okR]; done) | (simp only [sizeR] <;> omega) | fail)) only [↓preR, postR, ↓w_join, Nat.reduceEqDiff, Nat.reduceAdd, Nat.reduceSub, Nat.reduceMul, Int.reduceNeg, Nat.reduceLT, Int.reduceToNat, Nat.reduceLeDiff, Nat.sub_zero, h1.obj, h1.obj1, f1, t2])
        refine single_c h1 hi (by unfold maxLen; omega) ?_
        exact RdK.any (RdK.junk hk)
      | true =>
        have f3 := ff 34 34 rfl (nx _ c2 _ (by decide))
        have f4 := ff 40 40 rfl (nx _ c2 _ (by decide))
        have f5 := ff 36 36 rfl (nx _ c2 _ (by decide))
        have f6 := ff 96 96 rfl (nx _ c2 _ (by decide))
        have hk : RdK X R p s i bat deep rest k (.ok 1) := by simpa [c2] using hk
        (simp (maxSteps := 1000000) (dsimp := false) (disch := (first | omega | (simp only [okR]; done) | (simp only [sizeR] <;> omega) | fail)) only [↓preR, postR, ↓w_join, Nat.reduceEqDiff, Nat.reduceAdd, Nat.reduceSub, Nat.reduceMul, Int.reduceNeg, Nat.reduceLT, Int.reduceToNat, Nat.reduceLeDiff, Nat.sub_zero, h1.obj, h1.obj1, f1, t2, f3, f4, f5, f6])
        exact hk _ _ h1.put.swap.drop
    have f2 := ff 39 39 rfl c2
    simp only [c2, false_and, if_false] at hk
    by_cases c3 : c = 34
    · have t3 := tt 34 34 rfl c3
      cases d with
      | true =>
        simp only [c3, and_self, if_true] at hk
        have h2 := h1.put (cs' := rdC 0 bat s ((i : Int) + 1) deep rest)
        (simp (maxSteps := 1000000) (dsimp := false) (disch := (first | omega | (simp only [okR]; done) | (simp only [sizeR] <;> omega) | fail)) only [↓preR, postR, ↓w_join, Nat.reduceEqDiff, Nat.reduceAdd, Nat.reduceSub, Nat.reduceMul, Int.reduceNeg, Nat.reduceLT, Int.reduceToNat, Nat.reduceLeDiff, Nat.sub_zero, h1.obj, h1.obj1, f1, f2, t3, h2.obj, h2.obj1])
        generalize AS.put _ p _ = s2 at h2 ⊢
        refine until_c (i := i) (m := 0) (n := 1) (f := f) (e := 34) (q := true) (d := false) (b := false) h2 rfl hd hs (by omega) (by omega) (by omega) ?_ hk.junk.any
        intro s4 k1 i1 g hg hi1 hg2 hd1 h3 hk1
        refine ⟨k53_ok, ?_⟩
        refine f53 ?_
        (simp (maxSteps := 1000000) (dsimp := false) (disch := (first | omega | (simp only [okR]; done) | (simp only [sizeR] <;> omega) | fail)) only [↓preR, postR, ↓w_join, Nat.reduceEqDiff, Nat.reduceAdd, Nat.reduceSub, Nat.reduceMul, Int.reduceNeg, Nat.reduceLT, Int.reduceToNat, Nat.reduceLeDiff, Nat.sub_zero, F53, h3.obj1])
        exact ih' g hg hg2 hi1 hd1 hs h3 hk1.any
      | false =>
        have f4 := ff 40 40 rfl (nx _ c3 _ (by decide))
        have f5 := ff 36 36 rfl (nx _ c3 _ (by decide))
        have f6 := ff 96 96 rfl (nx _ c3 _ (by decide))
        have hk : RdK X R p s i bat deep rest k (.ok 1) := by simpa [c3] using hk
        (simp (maxSteps := 1000000) (dsimp := false) (disch := (first | omega | (simp only [okR]; done) | (simp only [sizeR] <;> omega) | fail)) only [↓preR, postR, ↓w_join, Nat.reduceEqDiff, Nat.reduceAdd, Nat.reduceSub, Nat.reduceMul, Int.reduceNeg, Nat.reduceLT, Int.reduceToNat, Nat.reduceLeDiff, Nat.sub_zero, h1.obj, h1.obj1, f1, f2, t3, f4, f5, f6])
        exact hk _ _ h1.put.swap.drop
    have f3 := ff 34 34 rfl c3
    simp only [c3, false_and, if_false] at hk
    by_cases c4 : c = 40
    · have t4 := tt 40 40 rfl c4
      cases b with
      | true =>
        simp only [c4, and_self, if_true] at hk
        (simp (maxSteps := 1000000) (dsimp := false) (disch := (first | omega | (simp only [okR]; done) | (simp only [sizeR] <;> omega) | fail)) only [↓preR, postR, ↓w_join, Nat.reduceEqDiff, Nat.reduceAdd, Nat.reduceSub, Nat.reduceMul, Int.reduceNeg, Nat.reduceLT, Int.reduceToNat, Nat.reduceLeDiff, Nat.sub_zero, h1.obj, h1.obj1, f1, f2, f3, t4])
        exact bracket_c (f := f) ih' (by omega) hi hd hs h1 hk.junk.any
      | false =>
        have f5 := ff 36 36 rfl (nx _ c4 _ (by decide))
        have f6 := ff 96 96 rfl (nx _ c4 _ (by decide))
        have hk : RdK X R p s i bat deep rest k (.ok 1) := by simpa [c4] using hk
        (simp (maxSteps := 1000000) (dsimp := false) (disch := (first | omega | (simp only [okR]; done) | (simp only [sizeR] <;> omega) | fail)) only [↓preR, postR, ↓w_join, Nat.reduceEqDiff, Nat.reduceAdd, Nat.reduceSub, Nat.reduceMul, Int.reduceNeg, Nat.reduceLT, Int.reduceToNat, Nat.reduceLeDiff, Nat.sub_zero, h1.obj, h1.obj1, f1, f2, f3, t4, f5, f6])
        exact hk _ _ h1.put.swap.drop
    have f4 := ff 40 40 rfl c4
    simp only [c4, false_and, if_false] at hk
    by_cases c5 : c = 36
    · have t5 := tt 36 36 rfl c5
      simp only [c5, if_true] at hk
      (simp (maxSteps := 1000000) (dsimp := false) (disch := (first | omega | (simp only [okR]; done) | (simp only [sizeR] <;> omega) | fail)) only [↓preR, postR, ↓w_join, Nat.reduceEqDiff, Nat.reduceAdd, Nat.reduceSub, Nat.reduceMul, Int.reduceNeg, Nat.reduceLT, Int.reduceToNat, Nat.reduceLeDiff, Nat.sub_zero, h1.obj, h1.obj1, f1, f2, f3, f4, t5])
      exact dollar_c (f := f) ih' (by omega) hi hd hs h1 hk.junk.any
    have f5 := ff 36 36 rfl c5
    simp only [c5, if_false] at hk
    by_cases c6 : c = 96
    · have t6 := tt 96 96 rfl c6
      simp only [c6, if_true] at hk
      (simp (maxSteps := 1000000) (dsimp := false) (disch := (first | omega | (simp only [okR]; done) | (simp only [sizeR] <;> omega) | fail)) only [↓preR, postR, ↓w_join, Nat.reduceEqDiff, Nat.reduceAdd, Nat.reduceSub, Nat.reduceMul, Int.reduceNeg, Nat.reduceLT, Int.reduceToNat, Nat.reduceLeDiff, Nat.sub_zero, h1.obj, h1.obj1, f1, f2, f3, f4, f5, t6])
      refine isb_c h1 fun w s2 h2 => ?_
      (try simp (maxSteps := 1000000) (dsimp := false) (disch := (first | omega | (simp only [okR]; done) | (simp only [sizeR] <;> omega) | fail)) only [↓preR, postR, ↓w_join, Nat.reduceEqDiff, Nat.reduceAdd, Nat.reduceSub, Nat.reduceMul, Int.reduceNeg, Nat.reduceLT, Int.reduceToNat, Nat.reduceLeDiff, Nat.sub_zero])
      exact hk _ _ i deep (by omega) h2.swap.drop
    have f6 := ff 96 96 rfl c6
    simp only [c6, if_false] at hk
    (simp (maxSteps := 1000000) (dsimp := false) (disch := (first | omega | (simp only [okR]; done) | (simp only [sizeR] <;> omega) | fail)) only [↓preR, postR, ↓w_join, Nat.reduceEqDiff, Nat.reduceAdd, Nat.reduceSub, Nat.reduceMul, Int.reduceNeg, Nat.reduceLT, Int.reduceToNat, Nat.reduceLeDiff, Nat.sub_zero, h1.obj, h1.obj1, f1, f2, f3, f4, f5, f6])
    exact hk _ _ h1.put.swap.drop
end
end Go.Proofs.YtmgdkoidgoihfaaDoor
