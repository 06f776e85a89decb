/- Patterns: whether a token fits a byte, in the program and in the reference; special tokens. Conditions: as each theorem says. -/
import Derived.Test.YtgkhdiahncemcaaGlF
namespace Go.Proofs.Ytgkhdiahncemcaa
open E Go.Lib
set_option linter.unusedVariables false
set_option linter.unusedSimpArgs false
set_option maxHeartbeats 1000000
set_option maxRecDepth 20000

section
variable {σ σ' : AS} {X : Ce} {R : List Ck} {k : Value → AS → Prop} {l a b : List Tok} {u v va vb : Value} {c b1 : UInt8} {kd : Int} {nt : Bool} {p : Nat} {rs : List (UInt8 × UInt8)}
theorem idxR_c (hu : RepL X u rs) (h : Hs σ X (Cel p [.int .u8 c.toNat] :: R)) (hk : ∀ σ' n, Hs σ' X (Cel p [.int .u8 c.toNat] :: R) → (0 ≤ n ↔ rs.any (inR c) = true) → k (.int .i64 n) σ') :
    kCall Try.prog 36 [u, .func (.func 35) #[] #[pt p]] σ k := by
  obtain ⟨ra, rb, ro, rcap, rfl, rhc, rhm, rat⟩ := rng_at hu
  unfold maxLen at rhm
  refine f36 ?_
  (try simp (maxSteps := 1000000) (dsimp := false) (disch := (first | omega | (simp only [okR]; done) | (simp only [sizeR] <;> omega) | fail)) only [↓preR, postR, ↓w_stop, Nat.reduceEqDiff, Nat.reduceAdd, Nat.reduceSub, Nat.reduceMul, Int.reduceNeg, Nat.reduceLT, Int.reduceToNat, Nat.reduceLeDiff, Nat.sub_zero, F36])
  refine join_now ?_
  (try simp (maxSteps := 1000000) (dsimp := false) (disch := (first | omega | (simp only [okR]; done) | (simp only [sizeR] <;> omega) | fail)) only [↓preR, postR, ↓w_stop, Nat.reduceEqDiff, Nat.reduceAdd, Nat.reduceSub, Nat.reduceMul, Int.reduceNeg, Nat.reduceLT, Int.reduceToNat, Nat.reduceLeDiff, Nat.sub_zero])
  refine loop_inv (fun nn xs s1 => ∃ j : Nat, xs = [.int .i64 j] ∧ Hs s1 X (Cel p [.int .u8 c.toNat] :: R) ∧ j ≤ rs.length ∧ (∀ r, r ∈ rs.take j → inR c r = false) ∧ nn = rs.length - j) _ ⟨0, rfl, h, Nat.zero_le _, by simp, rfl⟩ ?_
  clear h
  rintro _ _ s1 again ⟨j, rfl, h, hj, hpre, rfl⟩ hag
  by_cases hlt : j < rs.length
  · obtain ⟨rfl, r0, r1⟩ := rat j hlt
    have g0 := h.ldx r0
    have g1 := h.ldx r1
    (simp (maxSteps := 1000000) (dsimp := false) (disch := (first | omega | (simp only [okR]; done) | (simp only [sizeR] <;> omega) | fail)) only [↓preR, postR, ↓w_join, Nat.reduceEqDiff, Nat.reduceAdd, Nat.reduceSub, Nat.reduceMul, Int.reduceNeg, Nat.reduceLT, Int.reduceToNat, Nat.reduceLeDiff, Nat.sub_zero, g0, g1])
    refine callv_by (a := []) (b := [pt p]) (by kernel_rfl) ?_
    refine inrng_c (r := rs[j]) h fun s2 h2 => ?_
    cases hr : inR c rs[j] with
    | true =>
      (simp (maxSteps := 1000000) (dsimp := false) (disch := (first | omega | (simp only [okR]; done) | (simp only [sizeR] <;> omega) | fail)) only [↓preR, postR, ↓w_join, Nat.reduceEqDiff, Nat.reduceAdd, Nat.reduceSub, Nat.reduceMul, Int.reduceNeg, Nat.reduceLT, Int.reduceToNat, Nat.reduceLeDiff, Nat.sub_zero])
      exact hk _ _ h2 ⟨fun _ => List.any_eq_true.2 ⟨rs[j], List.getElem_mem hlt, hr⟩, fun _ => by omega⟩
    | false =>
      (simp (maxSteps := 1000000) (dsimp := false) (disch := (first | omega | (simp only [okR]; done) | (simp only [sizeR] <;> omega) | fail)) only [↓preR, postR, ↓w_join, Nat.reduceEqDiff, Nat.reduceAdd, Nat.reduceSub, Nat.reduceMul, Int.reduceNeg, Nat.reduceLT, Int.reduceToNat, Nat.reduceLeDiff, Nat.sub_zero])
      refine hag _ _ _ ⟨j + 1, by simp, h2, hlt, ?_, rfl⟩ (by omega)
      rw [List.take_succ_eq_append_getElem hlt]
      intro t ht
      rcases List.mem_append.1 ht with ht | ht
      · exact hpre t ht
      · simp at ht; subst ht; exact hr
  · rw [List.take_of_length_le (by omega)] at hpre
    (simp (maxSteps := 1000000) (dsimp := false) (disch := (first | omega | (simp only [okR]; done) | (simp only [sizeR] <;> omega) | fail)) only [↓preR, postR, ↓w_join, Nat.reduceEqDiff, Nat.reduceAdd, Nat.reduceSub, Nat.reduceMul, Int.reduceNeg, Nat.reduceLT, Int.reduceToNat, Nat.reduceLeDiff, Nat.sub_zero])
    refine hk _ _ h ⟨fun h => by omega, fun h => ?_⟩
    obtain ⟨r, h1, h2⟩ := List.any_eq_true.1 h
    rw [hpre r h1] at h2
    cases h2
theorem has_c {m : Int} (hm : m = (c.toNat : Nat)) (hu : RepL X u rs) (h : Hs σ X R) (hk : ∀ σ', Hs σ' X R → k (.bool (fit1 (kd, b1, nt, rs) c)) σ') :
    kCall Try.prog 32 [.agg (tokC kd b1.toNat nt u).toArray, .int .u8 m] σ k := by
  subst hm
  refine f32 ?_
  have h1 := (h.new (cs := tokC kd b1.toNat nt u)).new (cs := [.int .u8 c.toNat])
  by_cases n1 : kd = 1
  · (simp (maxSteps := 1000000) (dsimp := false) (disch := (first | omega | (simp only [okR]; done) | (simp only [sizeR] <;> omega) | fail)) only [↓preR, postR, ↓w_join, Nat.reduceEqDiff, Nat.reduceAdd, Nat.reduceSub, Nat.reduceMul, Int.reduceNeg, Nat.reduceLT, Int.reduceToNat, Nat.reduceLeDiff, Nat.sub_zero, F32, n1, u8_eq])
    have := hk _ h1.drop.drop
    rw [show fit1 (kd, b1, nt, rs) c = decide (b1 = c) from by simp [fit1, n1]] at this
    subst n1
    exact this
  · by_cases n2 : kd = 2
    · (simp (maxSteps := 1000000) (dsimp := false) (disch := (first | omega | (simp only [okR]; done) | (simp only [sizeR] <;> omega) | fail)) only [↓preR, postR, ↓w_join, Nat.reduceEqDiff, Nat.reduceAdd, Nat.reduceSub, Nat.reduceMul, Int.reduceNeg, Nat.reduceLT, Int.reduceToNat, Nat.reduceLeDiff, Nat.sub_zero, F32, n2, u8_eq])
      have := hk _ h1.drop.drop
      rw [show fit1 (kd, b1, nt, rs) c = true from by simp [fit1, n2]] at this
      subst n2
      exact this
    · by_cases n4 : kd = 4
      · subst n4
        (simp (maxSteps := 1000000) (dsimp := false) (disch := (first | omega | (simp only [okR]; done) | (simp only [sizeR] <;> omega) | fail)) only [↓preR, postR, ↓w_join, Nat.reduceEqDiff, Nat.reduceAdd, Nat.reduceSub, Nat.reduceMul, Int.reduceNeg, Nat.reduceLT, Int.reduceToNat, Nat.reduceLeDiff, Nat.sub_zero, F32])
        have e : (σ.new (Ob.cells (tokC 4 (b1.toNat) nt u))).n = σ.n + 1 := rfl
        rw [e] at h1
        generalize σ.n + 1 = pc at h1 ⊢
        have hlt : σ.n < (AS.new (σ.new (Ob.cells (tokC 4 (b1.toNat) nt u))) (Ob.cells [.int .u8 c.toNat])).n := h1.drop.lt
        generalize AS.new (σ.new _) _ = s1 at h1 hlt ⊢
        generalize σ.n = pw at h1 hlt ⊢
        refine f34 ?_
        (simp (maxSteps := 1000000) (dsimp := false) (disch := (first | omega | (simp only [okR]; done) | (simp only [sizeR] <;> omega) | fail)) only [↓preR, postR, ↓w_join, Nat.reduceEqDiff, Nat.reduceAdd, Nat.reduceSub, Nat.reduceMul, Int.reduceNeg, Nat.reduceLT, Int.reduceToNat, Nat.reduceLeDiff, Nat.sub_zero, F34])
        refine idxR_c hu h1 fun s2 n h2 hn => ?_
        have e4 : fit1 (4, b1, nt, rs) c = (rs.any (inR c) != nt) := by simp [fit1]
        rw [e4] at hk
        cases ha : rs.any (inR c) with
        | true =>
          rw [ha] at hk
          have := hn.2 ha
          (simp (maxSteps := 1000000) (dsimp := false) (disch := (first | omega | (simp only [okR]; done) | (simp only [sizeR] <;> omega) | fail)) only [↓preR, postR, ↓w_join, Nat.reduceEqDiff, Nat.reduceAdd, Nat.reduceSub, Nat.reduceMul, Int.reduceNeg, Nat.reduceLT, Int.reduceToNat, Nat.reduceLeDiff, Nat.sub_zero, h2.obj1])
          have h9 := hk _ h2.drop.drop
          rw [show (true != nt) = !nt from by cases nt <;> rfl] at h9
          exact h9
        | false =>
          rw [ha] at hk
          have : ¬ 0 ≤ n := fun h => by rw [hn.1 h] at ha; cases ha
          (simp (maxSteps := 1000000) (dsimp := false) (disch := (first | omega | (simp only [okR]; done) | (simp only [sizeR] <;> omega) | fail)) only [↓preR, postR, ↓w_join, Nat.reduceEqDiff, Nat.reduceAdd, Nat.reduceSub, Nat.reduceMul, Int.reduceNeg, Nat.reduceLT, Int.reduceToNat, Nat.reduceLeDiff, Nat.sub_zero, h2.obj1])
          have h9 := hk _ h2.drop.drop
          rw [show (false != nt) = !!nt from by cases nt <;> rfl] at h9
          exact h9
      · (simp (maxSteps := 1000000) (dsimp := false) (disch := (first | omega | (simp only [okR]; done) | (simp only [sizeR] <;> omega) | fail)) only [↓preR, postR, ↓w_join, Nat.reduceEqDiff, Nat.reduceAdd, Nat.reduceSub, Nat.reduceMul, Int.reduceNeg, Nat.reduceLT, Int.reduceToNat, Nat.reduceLeDiff, Nat.sub_zero, F32, n1, n2, n4])
        have := hk _ h1.drop.drop
        rw [show fit1 (kd, b1, nt, rs) c = false from by simp [fit1, n1, n2, n4]] at this
        exact this
theorem fits_c {m : Int} (hm : m = (c.toNat : Nat)) (hu : RepL X u rs) (h : Hs σ X R) (hk : ∀ σ', Hs σ' X R → k (.bool (fit1 (kd, b1, nt, rs) c)) σ') :
    kCall Try.prog 26 [.agg (tokC kd b1.toNat nt u).toArray, .int .u8 m] σ k := by
  subst hm
  refine f26 ?_
  have h1 := h.new (cs := tokC kd b1.toNat nt u)
  by_cases n1 : kd = 1
  · (simp (maxSteps := 1000000) (dsimp := false) (disch := (first | omega | (simp only [okR]; done) | (simp only [sizeR] <;> omega) | fail)) only [↓preR, postR, ↓w_join, Nat.reduceEqDiff, Nat.reduceAdd, Nat.reduceSub, Nat.reduceMul, Int.reduceNeg, Nat.reduceLT, Int.reduceToNat, Nat.reduceLeDiff, Nat.sub_zero, F26, n1, u8_eq])
    have := hk _ h1.drop
    rw [show fit1 (kd, b1, nt, rs) c = decide (b1 = c) from by simp [fit1, n1]] at this
    subst n1
    exact this
  · by_cases n2 : kd = 2
    · (simp (maxSteps := 1000000) (dsimp := false) (disch := (first | omega | (simp only [okR]; done) | (simp only [sizeR] <;> omega) | fail)) only [↓preR, postR, ↓w_join, Nat.reduceEqDiff, Nat.reduceAdd, Nat.reduceSub, Nat.reduceMul, Int.reduceNeg, Nat.reduceLT, Int.reduceToNat, Nat.reduceLeDiff, Nat.sub_zero, F26, n2, u8_eq])
      have := hk _ h1.drop
      rw [show fit1 (kd, b1, nt, rs) c = true from by simp [fit1, n2]] at this
      subst n2
      exact this
    · by_cases n4 : kd = 4
      · subst n4
        obtain ⟨ra, rb, ro, rcap, rfl, rhc, rhm, rat⟩ := rng_at hu
        unfold maxLen at rhm
        (try simp (maxSteps := 1000000) (dsimp := false) (disch := (first | omega | (simp only [okR]; done) | (simp only [sizeR] <;> omega) | fail)) only [↓preR, postR, ↓w_stop, Nat.reduceEqDiff, Nat.reduceAdd, Nat.reduceSub, Nat.reduceMul, Int.reduceNeg, Nat.reduceLT, Int.reduceToNat, Nat.reduceLeDiff, Nat.sub_zero, F26])
        refine join_now ?_
        (try simp (maxSteps := 1000000) (dsimp := false) (disch := (first | omega | (simp only [okR]; done) | (simp only [sizeR] <;> omega) | fail)) only [↓preR, postR, ↓w_stop, Nat.reduceEqDiff, Nat.reduceAdd, Nat.reduceSub, Nat.reduceMul, Int.reduceNeg, Nat.reduceLT, Int.reduceToNat, Nat.reduceLeDiff, Nat.sub_zero])
        refine join_now ?_
        generalize σ.n = pw at h1 ⊢
        generalize AS.new σ _ = s0 at h1 ⊢
        refine loop_inv (fun nn xs s1 => ∃ j : Nat, xs = [.bool ((rs.take j).any (inR c)), .int .i64 j] ∧ Hs s1 X (Cel pw (tokC 4 b1.toNat nt (.slice ra rs.length rcap)) :: R) ∧ j ≤ rs.length ∧ nn = rs.length - j) _ ⟨0, rfl, h1, Nat.zero_le _, rfl⟩ ?_
        clear h1
        rintro _ _ s1 again ⟨j, rfl, h, hj, rfl⟩ hag
        have e4 : fit1 (4, b1, nt, rs) c = (rs.any (inR c) != nt) := by simp [fit1]
        by_cases hlt : j < rs.length
        · obtain ⟨rfl, r0, r1⟩ := rat j hlt
          have g0 := h.ldx r0
          have g1 := h.ldx r1
          have next : again [.bool ((rs.take j).any (inR c) || inR c rs[j]), .int .i64 ((j : Int) + 1)] s1 := by
            refine hag _ _ _ ⟨j + 1, ?_, h, hlt, rfl⟩ (by omega)
            rw [List.take_succ_eq_append_getElem hlt, List.any_append]
            simp
          cases ha : (rs.take j).any (inR c) with
          | true =>
            rw [ha] at next
            (simp (maxSteps := 1000000) (dsimp := false) (disch := (first | omega | (simp only [okR]; done) | (simp only [sizeR] <;> omega) | fail)) only [↓preR, postR, ↓w_join, Nat.reduceEqDiff, Nat.reduceAdd, Nat.reduceSub, Nat.reduceMul, Int.reduceNeg, Nat.reduceLT, Int.reduceToNat, Nat.reduceLeDiff, Nat.sub_zero, h.obj])
            exact next
          | false =>
            rw [ha, Bool.false_or] at next
            by_cases h2 : rs[j].1.toNat ≤ c.toNat
            · rw [show inR c rs[j] = decide (c.toNat ≤ rs[j].2.toNat) from by simp [inR, h2]] at next
              (simp (maxSteps := 1000000) (dsimp := false) (disch := (first | omega | (simp only [okR]; done) | (simp only [sizeR] <;> omega) | fail)) only [↓preR, postR, ↓w_join, Nat.reduceEqDiff, Nat.reduceAdd, Nat.reduceSub, Nat.reduceMul, Int.reduceNeg, Nat.reduceLT, Int.reduceToNat, Nat.reduceLeDiff, Nat.sub_zero, h.obj, g0, g1, u8_le, h2])
              exact next
            · rw [show inR c rs[j] = false from by simp [inR, h2]] at next
              (simp (maxSteps := 1000000) (dsimp := false) (disch := (first | omega | (simp only [okR]; done) | (simp only [sizeR] <;> omega) | fail)) only [↓preR, postR, ↓w_join, Nat.reduceEqDiff, Nat.reduceAdd, Nat.reduceSub, Nat.reduceMul, Int.reduceNeg, Nat.reduceLT, Int.reduceToNat, Nat.reduceLeDiff, Nat.sub_zero, h.obj, g0, g1, u8_le, h2])
              exact next
        · rw [List.take_of_length_le (by omega)]
          have := hk _ h.drop
          rw [e4] at this
          (simp (maxSteps := 1000000) (dsimp := false) (disch := (first | omega | (simp only [okR]; done) | (simp only [sizeR] <;> omega) | fail)) only [↓preR, postR, ↓w_join, Nat.reduceEqDiff, Nat.reduceAdd, Nat.reduceSub, Nat.reduceMul, Int.reduceNeg, Nat.reduceLT, Int.reduceToNat, Nat.reduceLeDiff, Nat.sub_zero, h.obj])
          exact this
      · (simp (maxSteps := 1000000) (dsimp := false) (disch := (first | omega | (simp only [okR]; done) | (simp only [sizeR] <;> omega) | fail)) only [↓preR, postR, ↓w_join, Nat.reduceEqDiff, Nat.reduceAdd, Nat.reduceSub, Nat.reduceMul, Int.reduceNeg, Nat.reduceLT, Int.reduceToNat, Nat.reduceLeDiff, Nat.sub_zero, F26, n1, n2, n4])
        have := hk _ h1.drop
        rw [show fit1 (kd, b1, nt, rs) c = false from by simp [fit1, n1, n2, n4]] at this
        exact this
theorem spec1_c {k : Value → AS → Prop} (h : Hs σ X R) (hk : ∀ σ', Hs σ' X R → k (.bool (decide (kd ≠ 1))) σ') :
    kCall Try.prog 28 [.agg (tokC kd b1.toNat nt u).toArray] σ k := by
  refine f28 ?_
  have h1 := h.new (cs := tokC kd b1.toNat nt u)
  (simp (maxSteps := 1000000) (dsimp := false) (disch := (first | omega | (simp only [okR]; done) | (simp only [sizeR] <;> omega) | fail)) only [↓preR, postR, ↓w_join, Nat.reduceEqDiff, Nat.reduceAdd, Nat.reduceSub, Nat.reduceMul, Int.reduceNeg, Nat.reduceLT, Int.reduceToNat, Nat.reduceLeDiff, Nat.sub_zero, F28])
  rw [← dec_n]
  exact hk _ h1.drop
theorem special_c (hl : RepL X v l) (h : Hs σ X R) (hk : ∀ σ', Hs σ' X R → k (.bool (specL l)) σ') : kCall Try.prog 17 [v] σ k := by
  obtain ⟨a1, ab, ao, acap, rfl, hac, ham, aat⟩ := tok_at hl
  unfold maxLen at ham
  refine f17 ?_
  (simp (maxSteps := 1000000) (dsimp := false) (disch := (first | omega | (simp only [okR]; done) | (simp only [sizeR] <;> omega) | fail)) only [↓preR, postR, ↓w_join, Nat.reduceEqDiff, Nat.reduceAdd, Nat.reduceSub, Nat.reduceMul, Int.reduceNeg, Nat.reduceLT, Int.reduceToNat, Nat.reduceLeDiff, Nat.sub_zero, F17])
  refine f27 ?_
  (simp (maxSteps := 1000000) (dsimp := false) (disch := (first | omega | (simp only [okR]; done) | (simp only [sizeR] <;> omega) | fail)) only [↓preR, postR, ↓w_join, Nat.reduceEqDiff, Nat.reduceAdd, Nat.reduceSub, Nat.reduceMul, Int.reduceNeg, Nat.reduceLT, Int.reduceToNat, Nat.reduceLeDiff, Nat.sub_zero, F27])
  refine f33 ?_
  (try simp (maxSteps := 1000000) (dsimp := false) (disch := (first | omega | (simp only [okR]; done) | (simp only [sizeR] <;> omega) | fail)) only [↓preR, postR, ↓w_stop, Nat.reduceEqDiff, Nat.reduceAdd, Nat.reduceSub, Nat.reduceMul, Int.reduceNeg, Nat.reduceLT, Int.reduceToNat, Nat.reduceLeDiff, Nat.sub_zero, F33])
  refine join_now ?_
  (try simp (maxSteps := 1000000) (dsimp := false) (disch := (first | omega | (simp only [okR]; done) | (simp only [sizeR] <;> omega) | fail)) only [↓preR, postR, ↓w_stop, Nat.reduceEqDiff, Nat.reduceAdd, Nat.reduceSub, Nat.reduceMul, Int.reduceNeg, Nat.reduceLT, Int.reduceToNat, Nat.reduceLeDiff, Nat.sub_zero])
  refine loop_inv (fun nn xs s1 => ∃ j : Nat, xs = [.int .i64 j] ∧ Hs s1 X R ∧ j ≤ l.length ∧ (∀ t, t ∈ l.take j → t.1 = 1) ∧ nn = l.length - j) _ ⟨0, rfl, h, Nat.zero_le _, by simp, rfl⟩ ?_
  clear h
  rintro _ _ s1 again ⟨j, rfl, h, hj, hpre, rfl⟩ hag
  by_cases hlt : j < l.length
  · obtain ⟨rfl, u, hkd, hu, c0, c1, c2, c3⟩ := aat j hlt
    have g0 := h.ldx c0
    have g1 := h.ldx c1
    have g2 := h.ldx c2
    have g3 := h.ldx c3
    (simp (maxSteps := 1000000) (dsimp := false) (disch := (first | omega | (simp only [okR]; done) | (simp only [sizeR] <;> omega) | fail)) only [↓preR, postR, ↓w_join, Nat.reduceEqDiff, Nat.reduceAdd, Nat.reduceSub, Nat.reduceMul, Int.reduceNeg, Nat.reduceLT, Int.reduceToNat, Nat.reduceLeDiff, Nat.sub_zero, g0, g1, g2, g3])
    refine callv_by (a := []) (b := []) (by kernel_rfl) ?_
    refine spec1_c (kd := l[j].1) (b1 := l[j].2.1) (nt := l[j].2.2.1) (u := u) h fun s2 h2 => ?_
    by_cases hn : l[j].1 = 1
    · (simp (maxSteps := 1000000) (dsimp := false) (disch := (first | omega | (simp only [okR]; done) | (simp only [sizeR] <;> omega) | fail)) only [↓preR, postR, ↓w_join, Nat.reduceEqDiff, Nat.reduceAdd, Nat.reduceSub, Nat.reduceMul, Int.reduceNeg, Nat.reduceLT, Int.reduceToNat, Nat.reduceLeDiff, Nat.sub_zero, hn])
      refine hag _ _ _ ⟨j + 1, by simp, h2, hlt, ?_, rfl⟩ (by omega)
      rw [List.take_succ_eq_append_getElem hlt]
      intro t ht
      rcases List.mem_append.1 ht with ht | ht
      · exact hpre t ht
      · simp at ht; subst ht; exact hn
    · (simp (maxSteps := 1000000) (dsimp := false) (disch := (first | omega | (simp only [okR]; done) | (simp only [sizeR] <;> omega) | fail)) only [↓preR, postR, ↓w_join, Nat.reduceEqDiff, Nat.reduceAdd, Nat.reduceSub, Nat.reduceMul, Int.reduceNeg, Nat.reduceLT, Int.reduceToNat, Nat.reduceLeDiff, Nat.sub_zero, hn])
      have := hk _ h2
      rw [show specL l = true from List.any_eq_true.2 ⟨l[j], List.getElem_mem hlt, by simpa using hn⟩] at this
      exact this
  · rw [List.take_of_length_le (by omega)] at hpre
    (simp (maxSteps := 1000000) (dsimp := false) (disch := (first | omega | (simp only [okR]; done) | (simp only [sizeR] <;> omega) | fail)) only [↓preR, postR, ↓w_join, Nat.reduceEqDiff, Nat.reduceAdd, Nat.reduceSub, Nat.reduceMul, Int.reduceNeg, Nat.reduceLT, Int.reduceToNat, Nat.reduceLeDiff, Nat.sub_zero])
    have := hk _ h
    rw [show specL l = false from by
      unfold specL
      rw [List.any_eq_false]
      intro t ht
      simpa using hpre t ht] at this
    exact this
theorem rspecial_c (hl : RepL X v l) (h : Hs σ X R) (hk : k (.bool (specL l)) σ) : kCall Try.prog 18 [v] σ k := by
  obtain ⟨a1, ab, ao, acap, rfl, hac, ham, aat⟩ := tok_at hl
  unfold maxLen at ham
  refine f18 ?_
  (try simp (maxSteps := 1000000) (dsimp := false) (disch := (first | omega | (simp only [okR]; done) | (simp only [sizeR] <;> omega) | fail)) only [↓preR, postR, ↓w_stop, Nat.reduceEqDiff, Nat.reduceAdd, Nat.reduceSub, Nat.reduceMul, Int.reduceNeg, Nat.reduceLT, Int.reduceToNat, Nat.reduceLeDiff, Nat.sub_zero, F18])
  refine join_now ?_
  (try simp (maxSteps := 1000000) (dsimp := false) (disch := (first | omega | (simp only [okR]; done) | (simp only [sizeR] <;> omega) | fail)) only [↓preR, postR, ↓w_stop, Nat.reduceEqDiff, Nat.reduceAdd, Nat.reduceSub, Nat.reduceMul, Int.reduceNeg, Nat.reduceLT, Int.reduceToNat, Nat.reduceLeDiff, Nat.sub_zero])
  refine loop_inv (fun nn xs s1 => ∃ j : Nat, xs = [.int .i64 j] ∧ σ = s1 ∧ j ≤ l.length ∧ (∀ t, t ∈ l.take j → t.1 = 1) ∧ nn = l.length - j) _ ⟨0, rfl, rfl, Nat.zero_le _, by simp, rfl⟩ ?_
  rintro _ _ s1 again ⟨j, rfl, rfl, hj, hpre, rfl⟩ hag
  by_cases hlt : j < l.length
  · obtain ⟨rfl, u, hkd, hu, c0, c1, c2, c3⟩ := aat j hlt
    have g0 := h.ldx c0
    by_cases hn : l[j].1 = 1
    · (simp (maxSteps := 1000000) (dsimp := false) (disch := (first | omega | (simp only [okR]; done) | (simp only [sizeR] <;> omega) | fail)) only [↓preR, postR, ↓w_join, Nat.reduceEqDiff, Nat.reduceAdd, Nat.reduceSub, Nat.reduceMul, Int.reduceNeg, Nat.reduceLT, Int.reduceToNat, Nat.reduceLeDiff, Nat.sub_zero, g0, hn])
      refine hag _ _ _ ⟨j + 1, by simp, rfl, hlt, ?_, rfl⟩ (by omega)
      rw [List.take_succ_eq_append_getElem hlt]
      intro t ht
      rcases List.mem_append.1 ht with ht | ht
      · exact hpre t ht
      · simp at ht; subst ht; exact hn
    · (simp (maxSteps := 1000000) (dsimp := false) (disch := (first | omega | (simp only [okR]; done) | (simp only [sizeR] <;> omega) | fail)) only [↓preR, postR, ↓w_join, Nat.reduceEqDiff, Nat.reduceAdd, Nat.reduceSub, Nat.reduceMul, Int.reduceNeg, Nat.reduceLT, Int.reduceToNat, Nat.reduceLeDiff, Nat.sub_zero, g0, hn])
      rw [show specL l = true from List.any_eq_true.2 ⟨l[j], List.getElem_mem hlt, by simpa using hn⟩] at hk
      exact hk
  · rw [List.take_of_length_le (by omega)] at hpre
    (simp (maxSteps := 1000000) (dsimp := false) (disch := (first | omega | (simp only [okR]; done) | (simp only [sizeR] <;> omega) | fail)) only [↓preR, postR, ↓w_join, Nat.reduceEqDiff, Nat.reduceAdd, Nat.reduceSub, Nat.reduceMul, Int.reduceNeg, Nat.reduceLT, Int.reduceToNat, Nat.reduceLeDiff, Nat.sub_zero])
    rw [show specL l = false from by
      unfold specL
      rw [List.any_eq_false]
      intro t ht
      simpa using hpre t ht] at hk
    exact hk
end
end Go.Proofs.Ytgkhdiahncemcaa
