/- A text gone through: things, one and many. Conditions: as each theorem says. -/
import Derived.Test.YtmgdkoidgoihfaaDoorLxB
namespace Go.Proofs.YtmgdkoidgoihfaaDoor
open E Go.Lib
set_option linter.unusedVariables false
set_option linter.unusedSimpArgs false
set_option maxHeartbeats 1000000
set_option maxRecDepth 20000

/-- What a thing's call does, with so much fuel. -/
def ThC (f : Nat) : Prop := ∀ {σ : AS} {X : Ce} {R : List Ck} {k : Value → AS → Prop} {p i bat deep : Nat} {s : Str} {rest : List Value} {q d b : Bool}, 2 * (s.length - i) + 1 ≤ f → i < s.length → deep ≤ 40 → s.length ≤ 1000000 →
  Hs σ X (Cel p (rdC 0 bat s i deep rest) :: R) → RdK X R p s i bat deep rest k (go f none (s.drop i) q d b deep) → kCall Tryd.prog 38 [pv p, .bool q, .bool d, .bool b] σ k
theorem drop_drop' (s : Str) (i n : Nat) : (s.drop i).drop n = s.drop (i + n) := List.drop_drop
theorem add_add (r : Rd) (a b : Nat) : (r.add a).add b = r.add (b + a) := by cases r <;> simp [Rd.add, Nat.add_assoc]
theorem go_s (f : Nat) (e c : UInt8) (t : Str) (q d b : Bool) (deep : Nat) : go (f + 1) (some e) (c :: t) q d b deep = if c = e then .ok 1 else
      match go f none (c :: t) q d b deep with
      | .ok n => (go f (some e) ((c :: t).drop n) q d b deep).add n
      | r => r := by
  conv => lhs; unfold go
  rfl
section
variable {σ σ' : AS} {X : Ce} {R : List Ck} {k : Value → AS → Prop} {p i bat deep f m n : Nat} {s pre : Str} {rest : List Value} {c e : UInt8} {q d b : Bool}
theorem until_c {fn : Value} {ev : Int} (h : Hs σ X (Cel p (rdC 0 bat s ((i + n : Nat) : Int) deep rest) :: R)) (he : ev = e.toNat) (hd : deep ≤ 40) (hs : s.length ≤ 1000000) (hn : i + n ≤ s.length) (hm : i + m ≤ s.length)
    (hf : 2 * (s.length - (i + n)) + 2 ≤ f)
    (hfn : ∀ (σ1 : AS) (k1 : Value → AS → Prop) (i1 g : Nat), g < f → i1 < s.length → 2 * (s.length - i1) + 1 ≤ g → deep + 1 ≤ 40 → Hs σ1 X (Cel p (rdC 0 bat s i1 ((deep + 1 : Nat) : Int) rest) :: R) → RdK X R p s i1 bat (deep + 1) rest k1 (go g none (s.drop i1) q d b (deep + 1)) → kCallv Tryd.prog fn [] σ1 k1)
    (hk : RdK X R p s i bat deep rest k (shut m n deep (go f (some e) (s.drop (i + n)) q d b (deep + 1)))) :
    kCall Tryd.prog 52 [pv p, .int .u8 ev, .int .i64 ((i + m : Nat) : Int), fn] σ k := by
  subst he
  refine f52 ?_
  unfold shut at hk
  (try simp (maxSteps := 1000000) (dsimp := false) (disch := (first | omega | (simp only [okR]; done) | (simp only [sizeR] <;> omega) | fail)) only [↓preR, postR, ↓w_stop, Nat.reduceEqDiff, Nat.reduceAdd, Nat.reduceSub, Nat.reduceMul, Int.reduceNeg, Nat.reduceLT, Int.reduceToNat, Nat.reduceLeDiff, Nat.sub_zero, F52])
  refine join_now ?_
  (try simp (maxSteps := 1000000) (dsimp := false) (disch := (first | omega | (simp only [okR]; done) | (simp only [sizeR] <;> omega) | fail)) only [↓preR, postR, ↓w_stop, Nat.reduceEqDiff, Nat.reduceAdd, Nat.reduceSub, Nat.reduceMul, Int.reduceNeg, Nat.reduceLT, Int.reduceToNat, Nat.reduceLeDiff, Nat.sub_zero])
  refine opens_c h hd (fun hlt σ1 h1 => ?_) (fun heq σ1 h1 => ?_)
  rotate_left
  · rw [if_pos (by omega)] at hk
    (try simp (maxSteps := 1000000) (dsimp := false) (disch := (first | omega | (simp only [okR]; done) | (simp only [sizeR] <;> omega) | fail)) only [↓preR, postR, ↓w_stop, Nat.reduceEqDiff, Nat.reduceAdd, Nat.reduceSub, Nat.reduceMul, Int.reduceNeg, Nat.reduceLT, Int.reduceToNat, Nat.reduceLeDiff, Nat.sub_zero])
    exact hk _ _ (i + n) deep hn h1
  rw [if_neg (by omega)] at hk
  generalize hr0 : go f (some e) (s.drop (i + n)) q d b (deep + 1) = r0 at hk
  (try simp (maxSteps := 1000000) (dsimp := false) (disch := (first | omega | (simp only [okR]; done) | (simp only [sizeR] <;> omega) | fail)) only [↓preR, postR, ↓w_stop, Nat.reduceEqDiff, Nat.reduceAdd, Nat.reduceSub, Nat.reduceMul, Int.reduceNeg, Nat.reduceLT, Int.reduceToNat, Nat.reduceLeDiff, Nat.sub_zero])
  refine loop_inv (fun nn xs s2 => (∃ i1 g : Nat, g ≤ f ∧ i + n ≤ i1 ∧ i1 ≤ s.length ∧ 2 * (s.length - i1) + 2 ≤ g ∧ Hs s2 X (Cel p (rdC 0 bat s i1 ((deep + 1 : Nat) : Int) rest) :: R) ∧ (go g (some e) (s.drop i1) q d b (deep + 1)).add (i1 - (i + n)) = r0 ∧ nn = s.length - i1 + 1) ∨
      (∃ (e' : Int) (j at' dp : Nat), ¬ e' = 0 ∧ at' ≤ s.length ∧ Hs s2 X (Cel p (rdC e' ((i + (n + j) : Nat) : Int) s at' dp rest) :: R) ∧ r0 = .bad e' j ∧ nn = 0)) _
    (.inl ⟨i + n, f, Nat.le_refl _, Nat.le_refl _, hn, hf, h1, by rw [hr0, Nat.sub_self]; cases r0 <;> simp [Rd.add], rfl⟩) ?_
  rintro _ _ s2 again (⟨i1, g, hg, hi1, hi2, hg2, h2, hr, rfl⟩ | ⟨e', j, at', dp, he', hat, h2, rfl, rfl⟩) hag
  rotate_left
  · (try simp (maxSteps := 1000000) (dsimp := false) (disch := (first | omega | (simp only [okR]; done) | (simp only [sizeR] <;> omega) | fail)) only [↓preR, postR, ↓w_stop, Nat.reduceEqDiff, Nat.reduceAdd, Nat.reduceSub, Nat.reduceMul, Int.reduceNeg, Nat.reduceLT, Int.reduceToNat, Nat.reduceLeDiff, Nat.sub_zero])
    refine join_now ?_
    (try simp (maxSteps := 1000000) (dsimp := false) (disch := (first | omega | (simp only [okR]; done) | (simp only [sizeR] <;> omega) | fail)) only [↓preR, postR, ↓w_stop, Nat.reduceEqDiff, Nat.reduceAdd, Nat.reduceSub, Nat.reduceMul, Int.reduceNeg, Nat.reduceLT, Int.reduceToNat, Nat.reduceLeDiff, Nat.sub_zero])
    refine wrong_c h2 ?_
    (try simp (maxSteps := 1000000) (dsimp := false) (disch := (first | omega | (simp only [okR]; done) | (simp only [sizeR] <;> omega) | fail)) only [↓preR, postR, ↓w_stop, Nat.reduceEqDiff, Nat.reduceAdd, Nat.reduceSub, Nat.reduceMul, Int.reduceNeg, Nat.reduceLT, Int.reduceToNat, Nat.reduceLeDiff, Nat.sub_zero, he'])
    exact hk _ _ _ _ hat h2
  obtain ⟨g, rfl⟩ : ∃ g', g = g' + 1 := ⟨g - 1, by omega⟩
  (try simp (maxSteps := 1000000) (dsimp := false) (disch := (first | omega | (simp only [okR]; done) | (simp only [sizeR] <;> omega) | fail)) only [↓preR, postR, ↓w_stop, Nat.reduceEqDiff, Nat.reduceAdd, Nat.reduceSub, Nat.reduceMul, Int.reduceNeg, Nat.reduceLT, Int.reduceToNat, Nat.reduceLeDiff, Nat.sub_zero])
  refine join_now ?_
  (try simp (maxSteps := 1000000) (dsimp := false) (disch := (first | omega | (simp only [okR]; done) | (simp only [sizeR] <;> omega) | fail)) only [↓preR, postR, ↓w_stop, Nat.reduceEqDiff, Nat.reduceAdd, Nat.reduceSub, Nat.reduceMul, Int.reduceNeg, Nat.reduceLT, Int.reduceToNat, Nat.reduceLeDiff, Nat.sub_zero])
  refine wrong_c h2 ?_
  (try simp (maxSteps := 1000000) (dsimp := false) (disch := (first | omega | (simp only [okR]; done) | (simp only [sizeR] <;> omega) | fail)) only [↓preR, postR, ↓w_stop, Nat.reduceEqDiff, Nat.reduceAdd, Nat.reduceSub, Nat.reduceMul, Int.reduceNeg, Nat.reduceLT, Int.reduceToNat, Nat.reduceLeDiff, Nat.sub_zero])
  refine join_now ?_
  by_cases hend : i1 = s.length
  · have e0 : s.drop i1 = [] := List.drop_of_length_le (by omega)
    rw [e0] at hr
    have hr : r0 = .cut := hr.symm
    subst hr
    (try simp (maxSteps := 1000000) (dsimp := false) (disch := (first | omega | (simp only [okR]; done) | (simp only [sizeR] <;> omega) | fail)) only [↓preR, postR, ↓w_stop, Nat.reduceEqDiff, Nat.reduceAdd, Nat.reduceSub, Nat.reduceMul, Int.reduceNeg, Nat.reduceLT, Int.reduceToNat, Nat.reduceLeDiff, Nat.sub_zero, h2.obj, hend])
    refine isb_c h2 fun w σ3 h3 => ?_
    (try simp (maxSteps := 1000000) (dsimp := false) (disch := (first | omega | (simp only [okR]; done) | (simp only [sizeR] <;> omega) | fail)) only [↓preR, postR, ↓w_stop, Nat.reduceEqDiff, Nat.reduceAdd, Nat.reduceSub, Nat.reduceMul, Int.reduceNeg, Nat.reduceLT, Int.reduceToNat, Nat.reduceLeDiff, Nat.sub_zero])
    exact hk _ _ i1 (deep + 1) hi2 h3
  have hlt1 : i1 < s.length := by omega
  have hne : ¬ ((i1 : Int) = (s.length : Int)) := by omega
  rw [drop_c hlt1] at hr
  (try simp (maxSteps := 1000000) (dsimp := false) (disch := (first | omega | (simp only [okR]; done) | (simp only [sizeR] <;> omega) | fail)) only [↓preR, postR, ↓w_stop, Nat.reduceEqDiff, Nat.reduceAdd, Nat.reduceSub, Nat.reduceMul, Int.reduceNeg, Nat.reduceLT, Int.reduceToNat, Nat.reduceLeDiff, Nat.sub_zero, h2.obj, hne])
  refine join_now ?_
  by_cases hc : s[i1] = e
  · have hr : r0 = .ok (i1 - (i + n) + 1) := by rw [← hr, go_s, if_pos hc]; rfl
    subst hr
    have hce : (((s[i1]?).getD 0).toNat : Int) = (e.toNat : Int) := by rw [getd hlt1, hc]
    have h3 := h2.put (cs' := rdC 0 bat s ((i1 : Int) + 1) ((deep + 1 : Nat) : Int) rest)
    (try simp (maxSteps := 1000000) (dsimp := false) (disch := (first | omega | (simp only [okR]; done) | (simp only [sizeR] <;> omega) | fail)) only [↓preR, postR, ↓w_stop, Nat.reduceEqDiff, Nat.reduceAdd, Nat.reduceSub, Nat.reduceMul, Int.reduceNeg, Nat.reduceLT, Int.reduceToNat, Nat.reduceLeDiff, Nat.sub_zero, h2.obj, hce, h3.obj])
    have h4 := h2.put (cs' := rdC 0 bat s ((i1 : Int) + 1) (((deep + 1 : Nat) : Int) - 1) rest)
    have e1 : (i1 : Int) + 1 = ((i + (n + (i1 - (i + n) + 1)) : Nat) : Int) := by omega
    have e2 : ((deep + 1 : Nat) : Int) - 1 = (deep : Int) := by omega
    refine hk _ _ ?_
    rw [← e1, ← e2]
    simpa using h4
  · have hce : ¬ (((s[i1]?).getD 0).toNat : Int) = (e.toNat : Int) := by
      rw [getd hlt1]
      intro h
      exact hc (UInt8.toNat_inj.1 (by omega))
    (try simp (maxSteps := 1000000) (dsimp := false) (disch := (first | omega | (simp only [okR]; done) | (simp only [sizeR] <;> omega) | fail)) only [↓preR, postR, ↓w_stop, Nat.reduceEqDiff, Nat.reduceAdd, Nat.reduceSub, Nat.reduceMul, Int.reduceNeg, Nat.reduceLT, Int.reduceToNat, Nat.reduceLeDiff, Nat.sub_zero, h2.obj, hce])
    refine hfn _ _ i1 g (by omega) hlt1 (by omega) (by omega) h2 ?_
    rw [drop_c hlt1]
    rw [go_s, if_neg hc] at hr
    cases hgo : go g none (s[i1] :: s.drop (i1 + 1)) q d b (deep + 1) with
    | ok j =>
      rw [hgo] at hr
      have h5 := go_ok hgo
      rw [← drop_c hlt1] at hr h5
      rw [List.length_drop] at h5
      simp only [drop_drop', add_add] at hr
      intro w s3 h3
      refine hag _ _ _ (.inl ⟨i1 + j, g, by omega, by omega, by omega, by omega, h3, ?_, rfl⟩) (by omega)
      rw [← hr]
      congr 1
      omega
    | bad e' j =>
      rw [hgo] at hr
      have h5 := go_bad hgo
      rw [← drop_c hlt1, List.length_drop] at h5
      have hr : r0 = .bad e' (i1 - (i + n) + j) := hr.symm
      subst hr
      intro w s3 at' dp hat h3
      have hn0 : ¬ e' = 0 := by rcases h5.2 with h | h | h <;> omega
      have e1 : ((i1 + j : Nat) : Int) = ((i + (n + (i1 - (i + n) + j)) : Nat) : Int) := by omega
      rw [e1] at h3
      exact hag _ _ _ (.inr ⟨e', _, at', dp, hn0, hat, h3, rfl, rfl⟩) (by omega)
    | cut => trivial
end
end Go.Proofs.YtmgdkoidgoihfaaDoor
