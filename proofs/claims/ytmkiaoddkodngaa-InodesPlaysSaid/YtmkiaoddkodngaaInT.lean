/- Nodes: the reference's calls, what they read. Conditions: as each theorem says. -/
import Derived.Test.YtmkiaoddkodngaaInS
namespace Go.Proofs.Ytmkiaoddkodngaa
open E Go.Lib
set_option linter.unusedVariables false
set_option linter.unusedSimpArgs false
set_option maxHeartbeats 1000000
set_option maxRecDepth 20000

section
variable {σ σ' : AS} {X : Ce} {R : List Ck} {k : Value → AS → Prop} {t N m : Nat} {V V' : TV} {ask i at_ n : Int} {j : Nat} {data s : List UInt8} {d d' : RN} {x : RfX}
theorem rread_c (h : Hs σ X (Rf t N V :: R)) (hk : k (.tuple #[.string (bs (doM (5, i, at_, n, data) V 0).1.2.1), .int .i64 (doM (5, i, at_, n, data) V 0).1.2.2]) σ) :
    kCall Try.prog 46 [pp t, .int .i64 i, .int .i64 at_, .int .i64 n] σ k := by
  obtain ⟨x, hx, h1⟩ := Rf.open h
  simp only [doM] at hk
  have hcap := hx.cap
  have hcl := hx.cl
  have hfew := hx.few
  unfold maxLen at hfew
  refine f46 ?_
  (try simp (maxSteps := 1000000) (dsimp := false) (disch := (first | omega | (simp only [okR]; done) | (simp only [sizeR] <;> omega) | fail)) only [↓preR, postR, ↓w_join, Nat.reduceEqDiff, Nat.reduceAdd, Nat.reduceSub, Nat.reduceMul, Int.reduceNeg, Nat.reduceLT, Int.reduceToNat, Nat.reduceLeDiff, Nat.sub_zero, F46])
  refine ris_c h1 hx ?_
  cases hv : atV V i with
  | none =>
    rw [hv] at hk
    (try simp (maxSteps := 1000000) (dsimp := false) (disch := (first | omega | (simp only [okR]; done) | (simp only [sizeR] <;> omega) | fail)) only [↓preR, postR, ↓w_join, Nat.reduceEqDiff, Nat.reduceAdd, Nat.reduceSub, Nat.reduceMul, Int.reduceNeg, Nat.reduceLT, Int.reduceToNat, Nat.reduceLeDiff, Nat.sub_zero, Option.isSome_none])
    exact hk
  | some v =>
    rw [hv] at hk
    obtain ⟨d, ho, rfl, hok, i1, i2, c0, c1, c2, c3, c4⟩ := R_node hx hv
    have hdl := hok.data
    by_cases a0 : at_ < 0
    · simp only [a0, true_or, if_true] at hk
      (simp (maxSteps := 1000000) (dsimp := false) (disch := (first | omega | (simp only [okR]; done) | (simp only [sizeR] <;> omega) | fail)) only [↓preR, postR, ↓w_join, Nat.reduceEqDiff, Nat.reduceAdd, Nat.reduceSub, Nat.reduceMul, Int.reduceNeg, Nat.reduceLT, Int.reduceToNat, Nat.reduceLeDiff, Nat.sub_zero, Option.isSome_some])
      exact hk
    by_cases n0 : n < 0
    · simp only [n0, or_true, if_true] at hk
      (simp (maxSteps := 1000000) (dsimp := false) (disch := (first | omega | (simp only [okR]; done) | (simp only [sizeR] <;> omega) | fail)) only [↓preR, postR, ↓w_join, Nat.reduceEqDiff, Nat.reduceAdd, Nat.reduceSub, Nat.reduceMul, Int.reduceNeg, Nat.reduceLT, Int.reduceToNat, Nat.reduceLeDiff, Nat.sub_zero, Option.isSome_some])
      exact hk
    have hno : ¬ (at_ < 0 ∨ n < 0) := by omega
    simp only [hno, if_false] at hk
    by_cases hbig : (d.data.length : Int) < at_
    · have e : ((rnv d).data.drop at_.toNat).take n.toNat = [] := by
        show (d.data.drop at_.toNat).take n.toNat = []
        rw [List.drop_of_length_le (by omega), List.take_nil]
      rw [e] at hk
      (simp (maxSteps := 1000000) (dsimp := false) (disch := (first | omega | (simp only [okR]; done) | (simp only [sizeR] <;> omega) | fail)) only [↓preR, postR, ↓w_join, Nat.reduceEqDiff, Nat.reduceAdd, Nat.reduceSub, Nat.reduceMul, Int.reduceNeg, Nat.reduceLT, Int.reduceToNat, Nat.reduceLeDiff, Nat.sub_zero, Option.isSome_some, h1.obj, h1.obj1, c3])
      exact hk
    · obtain ⟨m, hm⟩ : ∃ m : Nat, (if (d.data.length : Int) - at_ < n then (d.data.length : Int) - at_ else n) = m := ⟨(if (d.data.length : Int) - at_ < n then (d.data.length : Int) - at_ else n).toNat, by split <;> omega⟩
      have hm2 : (m : Int) ≤ d.data.length - at_ := by split at hm <;> omega
      (simp (maxSteps := 1000000) (dsimp := false) (disch := (first | omega | (simp only [okR]; done) | (simp only [sizeR] <;> omega) | fail)) only [↓preR, postR, ↓w_join, Nat.reduceEqDiff, Nat.reduceAdd, Nat.reduceSub, Nat.reduceMul, Int.reduceNeg, Nat.reduceLT, Int.reduceToNat, Nat.reduceLeDiff, Nat.sub_zero, Option.isSome_some, h1.obj, h1.obj1, c3, hm])
      have e : (d.data.drop at_.toNat).take ((at_ + (m : Int)).toNat - at_.toNat) = (d.data.drop at_.toNat).take n.toNat := by
        rw [show (at_ + (m : Int)).toNat - at_.toNat = m from by omega]
        by_cases hx' : (d.data.length : Int) - at_ < n
        · rw [if_pos hx'] at hm
          rw [List.take_of_length_le (by rw [List.length_drop]; omega), List.take_of_length_le (by rw [List.length_drop]; omega)]
        · rw [if_neg hx'] at hm
          rw [show m = n.toNat from by omega]
      first | rw [e] | skip
      exact hk
theorem use_le (hx : RfOk x V) (j : Nat) (o : Option NV) (hj : V[j]? = some o) : use o ≤ 64 := by
  rw [← hx.see, List.getElem?_map] at hj
  cases hn : x.ns[j]? with
  | none => rw [hn] at hj; cases hj
  | some o' =>
    rw [hn] at hj
    obtain rfl := Option.some.inj hj
    cases o' with
    | none => exact Nat.zero_le _
    | some d =>
      have := (hx.ok d (List.mem_of_getElem? hn)).has
      have h2 : d.has.count true ≤ d.has.length := List.count_le_length
      show d.has.count true ≤ 64
      omega
theorem used_snoc (V : TV) (j : Nat) (o : Option NV) (hj : V[j]? = some o) : used (V.take (j + 1)) = used (V.take j) + use o := by
  unfold used
  rw [List.take_add_one, hj, List.map_append, List.sum_append]
  simp
theorem used_small (hx : RfOk x V) : ∀ j, j ≤ V.length → used (V.take j) ≤ 64 * j
  | 0, _ => by simp [used]
  | j + 1, hj => by
    have ih := used_small hx j (by omega)
    have hv : V[j]? = some V[j] := List.getElem?_eq_getElem (by omega)
    rw [used_snoc V j _ hv]
    have := use_le hx j _ hv
    omega
theorem rused_c (h : Hs σ X (RL t N x R)) (hx : RfOk x V) (hk : k (.int .i64 (used V)) σ) : kCall Try.prog 50 [pp t] σ k := by
  refine f50 ?_
  have hcap := hx.cap
  have hcl := hx.cl
  have hfew := hx.few
  unfold maxLen at hfew
  have hlen := R_len hx
  (try simp (maxSteps := 1000000) (dsimp := false) (disch := (first | omega | (simp only [okR]; done) | (simp only [sizeR] <;> omega) | fail)) only [↓preR, postR, ↓w_join, Nat.reduceEqDiff, Nat.reduceAdd, Nat.reduceSub, Nat.reduceMul, Int.reduceNeg, Nat.reduceLT, Int.reduceToNat, Nat.reduceLeDiff, Nat.sub_zero, F50])
  refine loop_inv (fun n xs s => ∃ i : Nat, xs = [.int .i64 (used (V.take (i - 1)) : Nat), .int .i64 (i : Nat)] ∧ i ≤ x.ns.length + 1 ∧ σ = s ∧ n = x.ns.length + 1 - i) _ ⟨0, by simp [used], by omega, rfl, rfl⟩ ?_
  rintro n _ _ again ⟨i, rfl, hi, rfl, rfl⟩ hag
  by_cases hlt : i < x.ns.length + 1
  · have hsm := used_small hx (i - 1) (by omega)
    obtain ⟨o, ho⟩ : ∃ o, (none :: x.ns)[i]? = some o := ⟨(none :: x.ns)[i]'(by simpa using hlt), List.getElem?_eq_getElem _⟩
    have c4 := flat_get (f := rnC) (sp := x.sp) (j := 4) rnC_len ho (by decide)
    have nxt : ∀ u : Nat, u = used (V.take i) → again [.int .i64 (u : Nat), .int .i64 ((i : Int) + 1)] σ := fun u hu =>
      hag _ _ _ ⟨i + 1, by rw [hu]; simp, by omega, rfl, rfl⟩ (by omega)
    cases o with
    | none =>
      have c4 : _ = some (Value.slice none 0 0) := c4
      (simp (maxSteps := 1000000) (dsimp := false) (disch := (first | omega | (simp only [okR]; done) | (simp only [sizeR] <;> omega) | fail)) only [↓preR, postR, ↓w_join, Nat.reduceEqDiff, Nat.reduceAdd, Nat.reduceSub, Nat.reduceMul, Int.reduceNeg, Nat.reduceLT, Int.reduceToNat, Nat.reduceLeDiff, Nat.sub_zero, h.obj, h.obj1, c4])
      refine loop_inv (fun n xs s => xs = [.int .i64 (used (V.take (i - 1)) : Nat), .int .i64 (0 : Nat)] ∧ σ = s) 0 ⟨rfl, rfl⟩ ?_
      rintro n _ _ again2 ⟨rfl, rfl⟩ hag2
      (simp (maxSteps := 1000000) (dsimp := false) (disch := (first | omega | (simp only [okR]; done) | (simp only [sizeR] <;> omega) | fail)) only [↓preR, postR, ↓w_join, Nat.reduceEqDiff, Nat.reduceAdd, Nat.reduceSub, Nat.reduceMul, Int.reduceNeg, Nat.reduceLT, Int.reduceToNat, Nat.reduceLeDiff, Nat.sub_zero, h.obj, h.obj1, c4])
      refine nxt _ ?_
      cases i with
      | zero => rfl
      | succ i =>
        rw [List.getElem?_cons_succ] at ho
        rw [used_snoc V i none (by rw [R_at hx ho]; rfl)]
        simp [use]
    | some d =>
      have c4 : _ = some (Value.slice (some ⟨d.g, 0, none⟩) 64 d.c) := c4
      cases i with
      | zero => cases ho
      | succ i =>
        rw [List.getElem?_cons_succ] at ho
        have hok := hx.ok d (List.mem_of_getElem? ho)
        have hb := h.celAt (2 + i) (RL_get ho)
        have hhl := hok.has
        (simp (maxSteps := 1000000) (dsimp := false) (disch := (first | omega | (simp only [okR]; done) | (simp only [sizeR] <;> omega) | fail)) only [↓preR, postR, ↓w_join, Nat.reduceEqDiff, Nat.reduceAdd, Nat.reduceSub, Nat.reduceMul, Int.reduceNeg, Nat.reduceLT, Int.reduceToNat, Nat.reduceLeDiff, Nat.sub_zero, h.obj, h.obj1, c4])
        have hsm2 : ∀ kk, (d.has.take kk).count true ≤ 64 := fun kk => Nat.le_trans List.count_le_length (by rw [List.length_take]; omega)
        refine loop_inv (fun n xs s => ∃ kk : Nat, xs = [.int .i64 ((used (V.take (i + 1 - 1)) + (d.has.take kk).count true : Nat) : Int), .int .i64 (kk : Nat)] ∧ kk ≤ 64 ∧ σ = s ∧ n = 64 - kk) _ ⟨0, by simp, by omega, rfl, rfl⟩ ?_
        rintro n _ _ again2 ⟨kk, rfl, hkk, rfl, rfl⟩ hag2
        have hs1 := hsm2 kk
        by_cases hk64 : kk < 64
        · have hg : (d.has.map bl ++ d.sp)[kk]? = some (.bool (d.has[kk]'(by omega))) := by
            rw [List.getElem?_append_left (by simp; omega), List.getElem?_map, List.getElem?_eq_getElem (by omega)]; rfl
          have ht : (d.has.take (kk + 1)).count true = (d.has.take kk).count true + if d.has[kk]'(by omega) = true then 1 else 0 := by
            rw [List.take_add_one, List.getElem?_eq_getElem (by omega), List.count_append]
            congr 1
            cases d.has[kk]'(by omega) <;> rfl
          cases hbv : d.has[kk]'(by omega) with
          | true =>
            rw [hbv] at hg ht
            (simp (maxSteps := 1000000) (dsimp := false) (disch := (first | omega | (simp only [okR]; done) | (simp only [sizeR] <;> omega) | fail)) only [↓preR, postR, ↓w_join, Nat.reduceEqDiff, Nat.reduceAdd, Nat.reduceSub, Nat.reduceMul, Int.reduceNeg, Nat.reduceLT, Int.reduceToNat, Nat.reduceLeDiff, Nat.sub_zero, h.obj, h.obj1, c4, hb, hg])
            exact hag2 _ _ _ ⟨kk + 1, by rw [ht]; simp; omega, by omega, rfl, rfl⟩ (by omega)
          | false =>
            rw [hbv] at hg ht
            (simp (maxSteps := 1000000) (dsimp := false) (disch := (first | omega | (simp only [okR]; done) | (simp only [sizeR] <;> omega) | fail)) only [↓preR, postR, ↓w_join, Nat.reduceEqDiff, Nat.reduceAdd, Nat.reduceSub, Nat.reduceMul, Int.reduceNeg, Nat.reduceLT, Int.reduceToNat, Nat.reduceLeDiff, Nat.sub_zero, h.obj, h.obj1, c4, hb, hg])
            exact hag2 _ _ _ ⟨kk + 1, by rw [ht]; simp, by omega, rfl, rfl⟩ (by omega)
        · obtain rfl : kk = 64 := by omega
          (simp (maxSteps := 1000000) (dsimp := false) (disch := (first | omega | (simp only [okR]; done) | (simp only [sizeR] <;> omega) | fail)) only [↓preR, postR, ↓w_join, Nat.reduceEqDiff, Nat.reduceAdd, Nat.reduceSub, Nat.reduceMul, Int.reduceNeg, Nat.reduceLT, Int.reduceToNat, Nat.reduceLeDiff, Nat.sub_zero, h.obj, h.obj1, c4])
          refine nxt _ ?_
          rw [used_snoc V i (some (rnv d)) (by rw [R_at hx ho]; rfl), show d.has.take 64 = d.has from List.take_of_length_le (by omega)]
          rfl
  · obtain rfl : i = x.ns.length + 1 := by omega
    (simp (maxSteps := 1000000) (dsimp := false) (disch := (first | omega | (simp only [okR]; done) | (simp only [sizeR] <;> omega) | fail)) only [↓preR, postR, ↓w_join, Nat.reduceEqDiff, Nat.reduceAdd, Nat.reduceSub, Nat.reduceMul, Int.reduceNeg, Nat.reduceLT, Int.reduceToNat, Nat.reduceLeDiff, Nat.sub_zero, h.obj])
    rw [show x.ns.length + 1 - 1 = V.length from by omega, List.take_of_length_le (Nat.le_refl _)]
    exact hk
theorem rfree_c (h : Hs σ X (Rf t N V :: R)) (hN : N ≤ 4096) (hu : used V ≤ N) (hk : k (.tuple #[.int .i64 (V.countP (·.isNone)), .int .i64 ((N - used V : Nat) : Int)]) σ) : kCall Try.prog 29 [pp t] σ k := by
  obtain ⟨x, hx, h1⟩ := Rf.open h
  refine f29 ?_
  have hcap := hx.cap
  have hcl := hx.cl
  have hfew := hx.few
  unfold maxLen at hfew
  have hlen := R_len hx
  (try simp (maxSteps := 1000000) (dsimp := false) (disch := (first | omega | (simp only [okR]; done) | (simp only [sizeR] <;> omega) | fail)) only [↓preR, postR, ↓w_join, Nat.reduceEqDiff, Nat.reduceAdd, Nat.reduceSub, Nat.reduceMul, Int.reduceNeg, Nat.reduceLT, Int.reduceToNat, Nat.reduceLeDiff, Nat.sub_zero, F29])
  refine loop_inv (fun n xs s => ∃ i : Nat, xs = [.int .i64 ((V.take i).countP (·.isNone) : Nat), .int .i64 ((i : Int) + 1)] ∧ i ≤ x.ns.length ∧ σ = s ∧ n = x.ns.length - i) _ ⟨0, by simp, by omega, rfl, rfl⟩ ?_
  rintro n _ _ again ⟨i, rfl, hi, rfl, rfl⟩ hag
  have hct : ∀ i, (V.take i).countP (·.isNone) ≤ V.length := fun i => Nat.le_trans List.countP_le_length (by rw [List.length_take]; omega)
  have hc1 := hct i
  by_cases hlt : i < x.ns.length
  · obtain ⟨o, ho, hv, hc, hok⟩ := R_cells (i := (i : Int) + 1) hx (by omega) (by omega)
    have c0 := hc 0 (by decide)
    rw [show ((i : Int) + 1).toNat = i + 1 from by omega, Nat.add_zero] at c0
    rw [show ((i : Int) + 1 - 1).toNat = i from by omega] at ho
    have hvi := R_at hx ho
    have ht : (V.take (i + 1)).countP (·.isNone) = (V.take i).countP (·.isNone) + if o.isNone then 1 else 0 := by
      rw [List.take_add_one, hvi, List.countP_append]
      congr 1
      cases o <;> rfl
    cases o with
    | none =>
      have c0 : _ = some (Value.int .i64 0) := c0
      (simp (maxSteps := 1000000) (dsimp := false) (disch := (first | omega | (simp only [okR]; done) | (simp only [sizeR] <;> omega) | fail)) only [↓preR, postR, ↓w_join, Nat.reduceEqDiff, Nat.reduceAdd, Nat.reduceSub, Nat.reduceMul, Int.reduceNeg, Nat.reduceLT, Int.reduceToNat, Nat.reduceLeDiff, Nat.sub_zero, h1.obj, h1.obj1, c0])
      exact hag _ _ _ ⟨i + 1, by rw [ht]; simp, by omega, rfl, rfl⟩ (by omega)
    | some d =>
      have c0 : _ = some (Value.int .i64 d.kind) := c0
      have := (hok d rfl).kind
      (simp (maxSteps := 1000000) (dsimp := false) (disch := (first | omega | (simp only [okR]; done) | (simp only [sizeR] <;> omega) | fail)) only [↓preR, postR, ↓w_join, Nat.reduceEqDiff, Nat.reduceAdd, Nat.reduceSub, Nat.reduceMul, Int.reduceNeg, Nat.reduceLT, Int.reduceToNat, Nat.reduceLeDiff, Nat.sub_zero, h1.obj, h1.obj1, c0])
      exact hag _ _ _ ⟨i + 1, by rw [ht]; simp, by omega, rfl, rfl⟩ (by omega)
  · obtain rfl : i = x.ns.length := by omega
    (simp (maxSteps := 1000000) (dsimp := false) (disch := (first | omega | (simp only [okR]; done) | (simp only [sizeR] <;> omega) | fail)) only [↓preR, postR, ↓w_join, Nat.reduceEqDiff, Nat.reduceAdd, Nat.reduceSub, Nat.reduceMul, Int.reduceNeg, Nat.reduceLT, Int.reduceToNat, Nat.reduceLeDiff, Nat.sub_zero, h1.obj])
    refine rused_c h1 hx ?_
    have e : (N : Int) - (used V : Int) = ((N - used V : Nat) : Int) := by omega
    (simp (maxSteps := 1000000) (dsimp := false) (disch := (first | omega | (simp only [okR]; done) | (simp only [sizeR] <;> omega) | fail)) only [↓preR, postR, ↓w_join, Nat.reduceEqDiff, Nat.reduceAdd, Nat.reduceSub, Nat.reduceMul, Int.reduceNeg, Nat.reduceLT, Int.reduceToNat, Nat.reduceLeDiff, Nat.sub_zero, h1.obj, e])
    rw [← hlen, List.take_length]
    exact hk
/-- A node is made. -/
theorem RL_made (h : Hs σ X (Cel d'.g (d'.has.map bl ++ d'.sp) :: RL t N x R)) {o : Option RN} (ho : x.ns[(i - 1).toNat]? = some o) (i1 : 1 ≤ i) :
    Hs (σ.put x.lb (.cells ((flat rnC (none :: x.ns) x.sp).take (i.toNat * 5) ++ rnC (some d') ++ (flat rnC (none :: x.ns) x.sp).drop (i.toNat * 5 + 5)))) X (RL t N (xset x (i - 1).toNat (some d')) R) := by
  have h2 := h.put2 (cs' := (flat rnC (none :: x.ns) x.sp).take (i.toNat * 5) ++ rnC (some d') ++ (flat rnC (none :: x.ns) x.sp).drop (i.toNat * 5 + 5))
  generalize AS.put σ x.lb _ = s at h2 ⊢
  rw [R_row ho i1 (some d')] at h2
  have hq := (List.getElem?_eq_some_iff.1 ho).1
  refine RL_set ?_
  have h3 := h2.instead (2 + (i - 1).toNat) (by simp; omega)
  rw [show 2 + (i - 1).toNat = (i - 1).toNat + 1 + 1 from by omega, List.set_cons_succ, List.set_cons_succ] at h3
  have e := R_things R x.ns (i - 1).toNat (some d') hq
  rw [← e]
  exact h3
theorem rmake_c (h : Hs σ X (Rf t N V :: R)) (hk : ∀ σ', Hs σ' X (Rf t N (doM (0, i, at_, n, data) V 0).2 :: R) → k (.tuple #[.int .i64 (doM (0, i, at_, n, data) V 0).1.1, .int .i64 (doM (0, i, at_, n, data) V 0).1.2.2]) σ') :
    kCall Try.prog 41 [pp t, .int .i64 n] σ k := by
  obtain ⟨x, hx, h1⟩ := Rf.open h
  simp only [doM, if_true] at hk
  refine f41 ?_
  have hcap := hx.cap
  have hcl := hx.cl
  have hfew := hx.few
  unfold maxLen at hfew
  have hlen := R_len hx
  by_cases n1 : n < 1
  · rw [if_pos (.inl n1)] at hk
    (try simp (maxSteps := 1000000) (dsimp := false) (disch := (first | omega | (simp only [okR]; done) | (simp only [sizeR] <;> omega) | fail)) only [↓preR, postR, ↓w_join, Nat.reduceEqDiff, Nat.reduceAdd, Nat.reduceSub, Nat.reduceMul, Int.reduceNeg, Nat.reduceLT, Int.reduceToNat, Nat.reduceLeDiff, Nat.sub_zero, F41])
    exact hk _ h
  by_cases n3 : 3 < n
  · rw [if_pos (.inr n3)] at hk
    (try simp (maxSteps := 1000000) (dsimp := false) (disch := (first | omega | (simp only [okR]; done) | (simp only [sizeR] <;> omega) | fail)) only [↓preR, postR, ↓w_join, Nat.reduceEqDiff, Nat.reduceAdd, Nat.reduceSub, Nat.reduceMul, Int.reduceNeg, Nat.reduceLT, Int.reduceToNat, Nat.reduceLeDiff, Nat.sub_zero, F41])
    exact hk _ h
  rw [if_neg (by omega)] at hk
  (try simp (maxSteps := 1000000) (dsimp := false) (disch := (first | omega | (simp only [okR]; done) | (simp only [sizeR] <;> omega) | fail)) only [↓preR, postR, ↓w_join, Nat.reduceEqDiff, Nat.reduceAdd, Nat.reduceSub, Nat.reduceMul, Int.reduceNeg, Nat.reduceLT, Int.reduceToNat, Nat.reduceLeDiff, Nat.sub_zero, F41])
  refine loop_inv (fun n xs s => ∃ i : Nat, xs = [.int .i64 ((i : Int) + 1)] ∧ i ≤ x.ns.length ∧ σ = s ∧ (∀ j, j < i → x.ns[j]? ≠ some none) ∧ n = x.ns.length - i) _ ⟨0, by simp, by omega, rfl, fun j hj => by omega, rfl⟩ ?_
  rintro _ _ _ again ⟨i, rfl, hi, rfl, hno, rfl⟩ hag
  by_cases hlt : i < x.ns.length
  · obtain ⟨o, ho, hv, hc, hok⟩ := R_cells (i := (i : Int) + 1) hx (by omega) (by omega)
    have c0 := hc 0 (by decide)
    have ho1 := ho
    rw [show ((i : Int) + 1).toNat = i + 1 from by omega, Nat.add_zero] at c0
    rw [show ((i : Int) + 1 - 1).toNat = i from by omega] at ho
    have hvi := R_at hx ho
    cases o with
    | some d =>
      have c0 : _ = some (Value.int .i64 d.kind) := c0
      have := (hok d rfl).kind
      (simp (maxSteps := 1000000) (dsimp := false) (disch := (first | omega | (simp only [okR]; done) | (simp only [sizeR] <;> omega) | fail)) only [↓preR, postR, ↓w_join, Nat.reduceEqDiff, Nat.reduceAdd, Nat.reduceSub, Nat.reduceMul, Int.reduceNeg, Nat.reduceLT, Int.reduceToNat, Nat.reduceLeDiff, Nat.sub_zero, h1.obj, h1.obj1, c0])
      refine hag _ _ _ ⟨i + 1, by simp, by omega, rfl, fun j hj => ?_, rfl⟩ (by omega)
      by_cases hji : j = i
      · subst hji; rw [ho]; simp
      · exact hno j (by omega)
    | none =>
      have c0 : _ = some (Value.int .i64 0) := c0
      have hfi : V.findIdx? (·.isNone) = some i := by
        rw [List.findIdx?_eq_some_iff_getElem]
        have hlv : i < V.length := by omega
        refine ⟨hlv, ?_, fun j hj => ?_⟩
        · rw [List.getElem?_eq_getElem hlv] at hvi
          rw [Option.some.inj hvi]; rfl
        · have h2 := hno j hj
          have h3 : x.ns[j]? = some x.ns[j] := List.getElem?_eq_getElem (by omega)
          have h4 := R_at hx h3
          rw [List.getElem?_eq_getElem (by omega)] at h4
          rw [Option.some.inj h4]
          cases hy : x.ns[j] with
          | none => rw [h3, hy] at h2; exact absurd rfl h2
          | some d => simp
      rw [hfi] at hk
      simp only at hk
      have e64 : (List.replicate 64 [Value.bool false]).flatten = (List.replicate 64 false).map bl ++ [] := by simp
      have h2 := h1.new (cs := (List.replicate 64 [Value.bool false]).flatten)
      (simp (maxSteps := 1000000) (dsimp := false) (disch := (first | omega | (simp only [okR]; done) | (simp only [sizeR] <;> omega) | fail)) only [↓preR, postR, ↓w_join, Nat.reduceEqDiff, Nat.reduceAdd, Nat.reduceSub, Nat.reduceMul, Int.reduceNeg, Nat.reduceLT, Int.reduceToNat, Nat.reduceLeDiff, Nat.sub_zero, h1.obj, h1.obj1, h2.obj1, h2.obj2, c0, flat_lenR])
      have h3 := RL_made (d' := ⟨n, 0, 0, [], σ.n, 64, List.replicate 64 false, []⟩) (by rw [← e64]; exact h2) ho1 (by omega)
      rw [show ((i : Int) + 1).toNat = i + 1 from by omega] at h3
      have hx2 := hx.set i (some ⟨n, 0, 0, [], σ.n, 64, List.replicate 64 false, []⟩) (fun d' hd' => by injection hd' with hd'; subst hd'; exact ⟨by simp, rfl, by show (64 : Nat) ≤ maxLen; decide, by show 1 ≤ n; omega, by simp⟩)
      rw [show ((i : Int) + 1 - 1).toNat = i from by omega] at h3
      exact hk _ (Rf.close h3 hx2)
  · obtain rfl : i = x.ns.length := by omega
    have hfi : V.findIdx? (·.isNone) = none := by
      rw [List.findIdx?_eq_none_iff]
      intro o ho
      obtain ⟨j, hj⟩ := List.mem_iff_getElem?.1 ho
      have hjl := (List.getElem?_eq_some_iff.1 hj).1
      have h3 : x.ns[j]? = some x.ns[j] := List.getElem?_eq_getElem (by omega)
      have h4 := R_at hx h3
      rw [hj] at h4
      have h2 := hno j (by omega)
      rw [Option.some.inj h4]
      cases hy : x.ns[j] with
      | none => rw [h3, hy] at h2; exact absurd rfl h2
      | some d => rfl
    rw [hfi] at hk
    (simp (maxSteps := 1000000) (dsimp := false) (disch := (first | omega | (simp only [okR]; done) | (simp only [sizeR] <;> omega) | fail)) only [↓preR, postR, ↓w_join, Nat.reduceEqDiff, Nat.reduceAdd, Nat.reduceSub, Nat.reduceMul, Int.reduceNeg, Nat.reduceLT, Int.reduceToNat, Nat.reduceLeDiff, Nat.sub_zero, h1.obj])
    exact hk _ h
end
end Go.Proofs.Ytmkiaoddkodngaa
