/- The document's answer for blocks, by the same functions on lists of blocks. Conditions: as each theorem says. -/
import Derived.Test.YtfiknjogkpbgdaaBlkA
namespace Go.Proofs.Ytfiknjogkpbgdaa
open E
set_option linter.unusedVariables false
set_option linter.unusedSimpArgs false
set_option maxHeartbeats 4000000
set_option maxRecDepth 20000

def tx (b : Bk) : List UInt8 := if b.1 then b.2 else []
abbrev sv (l : List UInt8) : Value := .string (bs l)
def rl (st : List Bk) : List Value := sv [] :: st.map fun b => sv (tx b)
theorem rl_len (st : List Bk) : (rl st).length = st.length + 1 := by simp [rl]
theorem rl_at (st : List Bk) (i : Nat) (hi : i < st.length) (y : List Value) : (rl st ++ y)[i + 1]? = some (sv (tx st[i])) := by
  rw [List.getElem?_append_left (by rw [rl_len]; omega)]
  simp [rl, hi]
theorem rl_set (st : List Bk) (i : Nat) (hi : i < st.length) (y : List Value) (b : Bk) : (rl st ++ y).set (i + 1) (sv (tx b)) = rl (st.set i b) ++ y := by
  rw [List.set_append_left _ _ (by rw [rl_len]; omega)]
  simp [rl, List.map_set]
theorem tx_nil {st : List Bk} (ho : Ok64 st) (i : Nat) (hi : i < st.length) : tx st[i] = [] ↔ st[i].1 = false := by
  have := ho.get i hi
  unfold tx
  cases st[i].1
  · simp
  · simp; rintro h; rw [h] at this; cases this

/-- Block q is the document's store of these blocks, its texts stand in block r. -/
structure Rst (σ : AS) (q r c : Nat) (y : List Value) (st : List Bk) : Prop where
  ptr : σ.m q = some (.cells [.slice (some ⟨r, 0, none⟩) (st.length + 1) c])
  row : σ.m r = some (.cells (rl st ++ y))
  ne : q ≠ r
  ok : Ok64 st
  few : st.length ≤ 4096
  cap : st.length + 1 ≤ c
section
variable {σ : AS} {k : Value → AS → Prop} {q r c : Nat} {y : List Value} {st st' : List Bk}
theorem Rst.chg {S : List Nat} {σ' : AS} (h : Rst σ q r c y st) (k : Chg S σ σ') (h1 : q ∉ S) (h2 : r ∉ S) : Rst σ' q r c y st :=
  ⟨(k.m q (σ.lt h.ptr) h1).trans h.ptr, (k.m r (σ.lt h.row) h2).trans h.row, h.ne, h.ok, h.few, h.cap⟩
theorem Rst.set (h : Rst σ q r c y st) (hl : st'.length = st.length) (ho : Ok64 st') : Rst (σ.put r (.cells (rl st' ++ y))) q r c y st' :=
  ⟨by rw [put_ne h.ne, h.ptr, hl], by rw [put_eq, h.row]; rfl, h.ne, ho, by have := h.few; omega, by have := h.cap; omega⟩
theorem zeros_c (n : Nat) (hn : n ≤ 100000) (hk : ∀ j, k (sv (List.replicate n 0)) (σ.up j)) : kCall Try.prog 26 [.int .i64 n] σ k := by
  refine kCall_wk (f26 ?_)
  have e : ∀ n : Nat, (List.replicate n [Value.int .u8 0]).flatten = (List.replicate n (0 : UInt8)).map fun b => Value.int .u8 b.toNat := by
    intro n
    induction n with
    | zero => rfl
    | succ n ih => rw [List.replicate_succ, List.flatten_cons, ih]; rfl
  (try simp (maxSteps := 1000000) (dsimp := false) (disch := (first | omega | (simp only [okR]; done) | (simp only [sizeR] <;> omega) | fail)) only [↓preR, postR, ↓w_join, Nat.reduceEqDiff, Nat.reduceAdd, Nat.reduceSub, Nat.reduceMul, Int.reduceNeg, Nat.reduceLT, Int.reduceToNat, Nat.reduceLeDiff, Nat.sub_zero, F26, e])
  refine cvb_all (l := List.replicate n 0) new_eq_ (by simp) ?_
  exact gar_end hk (by (repeat (first | exact Gar.refl _ | assumption | refine Gar.new ?_ _ | refine Gar.up ?_ _ | refine Gar.put ?_ (by first | omega | (simp only [sizeR] <;> omega)) _)))
theorem rnew_some (n : Nat) (h1 : 1 ≤ n) (h2 : n ≤ 4096) (hk : ∀ σ' q r, σ.n ≤ q → σ.n ≤ r → Gar σ σ' → Rst σ' q r (n + 1) [] (fresh n) → k (.tuple #[.pointer (some ⟨q, 0, none⟩), .int .i64 0]) σ') :
    kCall Try.prog 15 [.int .i64 n] σ k := by
  refine f15 ?_
  have e0 : (fresh n).length = n := by simp [fresh]
  have e1 : ((n : Int) + 1).toNat = n + 1 := by omega
  have e : (List.replicate (n + 1) [Value.string (bs [])]).flatten = rl (fresh n) := by
    have : ∀ m, (List.replicate m [Value.string (bs [])]).flatten = List.replicate m (sv []) := by
      intro m; induction m with
      | zero => rfl
      | succ m ih => rw [List.replicate_succ, List.flatten_cons, ih]; rfl
    rw [this, List.replicate_succ, rl, fresh, List.map_replicate]; rfl
  (try simp (maxSteps := 1000000) (dsimp := false) (disch := (first | omega | (simp only [okR]; done) | (simp only [sizeR] <;> omega) | fail)) only [↓preR, postR, ↓w_join, Nat.reduceEqDiff, Nat.reduceAdd, Nat.reduceSub, Nat.reduceMul, Int.reduceNeg, Nat.reduceLT, Int.reduceToNat, Nat.reduceLeDiff, Nat.sub_zero, F15, e, e1])
  refine hk _ (σ.n + 1) σ.n (by omega) (by omega) (by (repeat (first | exact Gar.refl _ | assumption | refine Gar.new ?_ _ | refine Gar.up ?_ _ | refine Gar.put ?_ (by first | omega | (simp only [sizeR] <;> omega)) _))) ⟨?_, ?_, by omega, ok_fresh n, by omega, by omega⟩
  · (try simp (maxSteps := 1000000) (dsimp := false) (disch := (first | omega | (simp only [okR]; done) | (simp only [sizeR] <;> omega) | fail)) only [↓preR, postR, ↓w_join, Nat.reduceEqDiff, Nat.reduceAdd, Nat.reduceSub, Nat.reduceMul, Int.reduceNeg, Nat.reduceLT, Int.reduceToNat, Nat.reduceLeDiff, Nat.sub_zero, e0])
  · (try simp (maxSteps := 1000000) (dsimp := false) (disch := (first | omega | (simp only [okR]; done) | (simp only [sizeR] <;> omega) | fail)) only [↓preR, postR, ↓w_join, Nat.reduceEqDiff, Nat.reduceAdd, Nat.reduceSub, Nat.reduceMul, Int.reduceNeg, Nat.reduceLT, Int.reduceToNat, Nat.reduceLeDiff, Nat.sub_zero])
theorem rnew_arg (n : Int) (h : n < 1 ∨ 4096 < n) (hk : k (.tuple #[.pointer none, .int .i64 1]) σ) : kCall Try.prog 15 [.int .i64 n] σ k := by
  refine f15 ?_
  by_cases h1 : n < 1
  · (try simp (maxSteps := 1000000) (dsimp := false) (disch := (first | omega | (simp only [okR]; done) | (simp only [sizeR] <;> omega) | fail)) only [↓preR, postR, ↓w_join, Nat.reduceEqDiff, Nat.reduceAdd, Nat.reduceSub, Nat.reduceMul, Int.reduceNeg, Nat.reduceLT, Int.reduceToNat, Nat.reduceLeDiff, Nat.sub_zero, F15]); exact hk
  · (try simp (maxSteps := 1000000) (dsimp := false) (disch := (first | omega | (simp only [okR]; done) | (simp only [sizeR] <;> omega) | fail)) only [↓preR, postR, ↓w_join, Nat.reduceEqDiff, Nat.reduceAdd, Nat.reduceSub, Nat.reduceMul, Int.reduceNeg, Nat.reduceLT, Int.reduceToNat, Nat.reduceLeDiff, Nat.sub_zero, F15]); exact hk
theorem ris_c (h : Rst σ q r c y st) (b : Int) (hk : k (.bool (isT st b)) σ) : kCall Try.prog 27 [.pointer (some ⟨q, 0, none⟩), .int .i64 b] σ k := by
  have hf := h.few
  refine f27 ?_
  by_cases h1 : b < 1
  · have e : isT st b = false := by
      have : ¬ 1 ≤ b := by omega
      simp [isT, this]
    rw [e] at hk
    (try simp (maxSteps := 1000000) (dsimp := false) (disch := (first | omega | (simp only [okR]; done) | (simp only [sizeR] <;> omega) | fail)) only [↓preR, postR, ↓w_join, Nat.reduceEqDiff, Nat.reduceAdd, Nat.reduceSub, Nat.reduceMul, Int.reduceNeg, Nat.reduceLT, Int.reduceToNat, Nat.reduceLeDiff, Nat.sub_zero, F27])
    exact hk
  by_cases h2 : (st.length : Int) < b
  · have e : isT st b = false := by
      have : ¬ b ≤ st.length := by omega
      simp [isT, this]
    rw [e] at hk
    (try simp (maxSteps := 1000000) (dsimp := false) (disch := (first | omega | (simp only [okR]; done) | (simp only [sizeR] <;> omega) | fail)) only [↓preR, postR, ↓w_join, Nat.reduceEqDiff, Nat.reduceAdd, Nat.reduceSub, Nat.reduceMul, Int.reduceNeg, Nat.reduceLT, Int.reduceToNat, Nat.reduceLeDiff, Nat.sub_zero, F27, h.ptr])
    exact hk
  obtain ⟨i, rfl⟩ : ∃ m : Nat, b = m + 1 := ⟨(b - 1).toNat, by omega⟩
  have hi : i < st.length := by omega
  have e : isT st (i + 1) = !decide (tx st[i] = []) := by
    rw [isT_at st i hi]
    have := tx_nil h.ok i hi
    cases hb : st[i].1 <;> simp [this, hb]
  rw [e] at hk
  (try simp (maxSteps := 1000000) (dsimp := false) (disch := (first | omega | (simp only [okR]; done) | (simp only [sizeR] <;> omega) | fail)) only [↓preR, postR, ↓w_join, Nat.reduceEqDiff, Nat.reduceAdd, Nat.reduceSub, Nat.reduceMul, Int.reduceNeg, Nat.reduceLT, Int.reduceToNat, Nat.reduceLeDiff, Nat.sub_zero, F27, h.ptr, h.row, rl_at st i hi y])
  exact hk
theorem rtake_e (h : Rst σ q r c y st) {a e : Int} (he : takeM st = (a, e, st')) (hk : ∀ σ', Rst σ' q r c y st' → Chg [q, r] σ σ' → k (.tuple #[.int .i64 a, .int .i64 e]) σ') :
    kCall Try.prog 16 [.pointer (some ⟨q, 0, none⟩)] σ k := by
  have hf := h.few
  refine f16 ?_
  (try simp (maxSteps := 1000000) (dsimp := false) (disch := (first | omega | (simp only [okR]; done) | (simp only [sizeR] <;> omega) | fail)) only [↓preR, postR, ↓w_join, Nat.reduceEqDiff, Nat.reduceAdd, Nat.reduceSub, Nat.reduceMul, Int.reduceNeg, Nat.reduceLT, Int.reduceToNat, Nat.reduceLeDiff, Nat.sub_zero, F16])
  refine loop_by (α := Nat) (fun i => [.int .i64 (i + 1)]) (fun i => σ) (fun i => i ≤ st.length ∧ ∀ j (hj : j < i) (hj' : j < st.length), st[j].1 = true) (fun i => st.length - i) 0 ⟨by omega, by intro j hj; omega⟩ rfl rfl ?_
  intro i ⟨hi, hall⟩ again hag
  dsimp only at hi hall hag ⊢
  by_cases hlt : i < st.length
  · have hx := tx_nil h.ok i hlt
    by_cases hb : st[i].1 = true
    · have hne : ¬ tx st[i] = [] := by rw [hx, hb]; simp
      (try simp (maxSteps := 1000000) (dsimp := false) (disch := (first | omega | (simp only [okR]; done) | (simp only [sizeR] <;> omega) | fail)) only [↓preR, postR, ↓w_join, Nat.reduceEqDiff, Nat.reduceAdd, Nat.reduceSub, Nat.reduceMul, Int.reduceNeg, Nat.reduceLT, Int.reduceToNat, Nat.reduceLeDiff, Nat.sub_zero, h.ptr, h.row, rl_at st i hlt y, decF hne])
      refine hag (i + 1) ⟨by omega, fun m hm hm' => ?_⟩ (by omega)
      by_cases hmi : m = i
      · subst hmi; exact hb
      · exact hall m (by omega) hm'
    · have hb' : st[i].1 = false := by simpa using hb
      have hne : tx st[i] = [] := by rw [hx, hb']
      (try simp (maxSteps := 1000000) (dsimp := false) (disch := (first | omega | (simp only [okR]; done) | (simp only [sizeR] <;> omega) | fail)) only [↓preR, postR, ↓w_join, Nat.reduceEqDiff, Nat.reduceAdd, Nat.reduceSub, Nat.reduceMul, Int.reduceNeg, Nat.reduceLT, Int.reduceToNat, Nat.reduceLeDiff, Nat.sub_zero, h.ptr, h.row, rl_at st i hlt y, decT hne])
      refine zeros_c 64 (by omega) (fun j => ?_)
      have e1 : List.replicate 64 0 = tx (true, zero64) := rfl
      have e2 := rl_set st i hlt y (true, zero64)
      have hl := rl_len st
      (try simp (maxSteps := 1000000) (dsimp := false) (disch := (first | omega | (simp only [okR]; done) | (simp only [sizeR] <;> omega) | fail)) only [↓preR, postR, ↓w_join, Nat.reduceEqDiff, Nat.reduceAdd, Nat.reduceSub, Nat.reduceMul, Int.reduceNeg, Nat.reduceLT, Int.reduceToNat, Nat.reduceLeDiff, Nat.sub_zero, h.ptr, h.row, e1, e2, hl])
      have hidx : st.findIdx? (fun b => !b.1) = some i := by
        rw [List.findIdx?_eq_some_iff_getElem]
        exact ⟨hlt, by simp [hb'], fun j hj => by simp [hall j hj (by omega)]⟩
      simp only [takeM, hidx, Prod.mk.injEq] at he
      obtain ⟨rfl, rfl, rfl⟩ := he
      have ho := takeM_ok st h.ok
      simp only [takeM, hidx] at ho
      exact hk _ (Rst.set (σ := σ.up j) ⟨h.ptr, h.row, h.ne, h.ok, h.few, h.cap⟩ ho.1 ho.2) (((Chg.refl _ _).up j).put (.inl (by simp)) _)
  · have hidx : st.findIdx? (fun b => !b.1) = none := by
      rw [List.findIdx?_eq_none_iff]
      intro b hb
      obtain ⟨j, hj, rfl⟩ := List.getElem_of_mem hb
      simp [hall j (by omega) hj]
    simp only [takeM, hidx, Prod.mk.injEq] at he
    obtain ⟨rfl, rfl, rfl⟩ := he
    have hl := rl_len st
    (try simp (maxSteps := 1000000) (dsimp := false) (disch := (first | omega | (simp only [okR]; done) | (simp only [sizeR] <;> omega) | fail)) only [↓preR, postR, ↓w_join, Nat.reduceEqDiff, Nat.reduceAdd, Nat.reduceSub, Nat.reduceMul, Int.reduceNeg, Nat.reduceLT, Int.reduceToNat, Nat.reduceLeDiff, Nat.sub_zero, h.ptr, hl])
    exact hk _ h (Chg.refl _ _)
theorem rgive_e (h : Rst σ q r c y st) {b e : Int} (he : giveM st b = (e, st')) (hk : ∀ σ', Rst σ' q r c y st' → Chg [q, r] σ σ' → k (.int .i64 e) σ') :
    kCall Try.prog 17 [.pointer (some ⟨q, 0, none⟩), .int .i64 b] σ k := by
  have hf := h.few
  refine f17 ?_
  (try simp (maxSteps := 1000000) (dsimp := false) (disch := (first | omega | (simp only [okR]; done) | (simp only [sizeR] <;> omega) | fail)) only [↓preR, postR, ↓w_join, Nat.reduceEqDiff, Nat.reduceAdd, Nat.reduceSub, Nat.reduceMul, Int.reduceNeg, Nat.reduceLT, Int.reduceToNat, Nat.reduceLeDiff, Nat.sub_zero, F17])
  refine ris_c h b ?_
  cases hb : isT st b
  · simp only [giveM, hb, Bool.false_eq_true, if_false, Prod.mk.injEq] at he
    obtain ⟨rfl, rfl⟩ := he
    (try simp (maxSteps := 1000000) (dsimp := false) (disch := (first | omega | (simp only [okR]; done) | (simp only [sizeR] <;> omega) | fail)) only [↓preR, postR, ↓w_join, Nat.reduceEqDiff, Nat.reduceAdd, Nat.reduceSub, Nat.reduceMul, Int.reduceNeg, Nat.reduceLT, Int.reduceToNat, Nat.reduceLeDiff, Nat.sub_zero])
    exact hk _ h (Chg.refl _ _)
  · obtain ⟨i, rfl, hi, h1⟩ := (isT_iff _ _).1 hb
    have e0 : ((i : Int) + 1 - 1).toNat = i := by omega
    have ho := giveM_ok st (i + 1) h.ok
    simp only [giveM, hb, if_true, e0, List.getElem?_eq_getElem hi, Option.map_some, Option.getD_some, Prod.mk.injEq] at he ho
    obtain ⟨rfl, rfl⟩ := he
    have e1 : tx (false, st[i].2) = [] := rfl
    have e2 := rl_set st i hi y (false, st[i].2)
    rw [e1] at e2
    have hl := rl_len st
    (try simp (maxSteps := 1000000) (dsimp := false) (disch := (first | omega | (simp only [okR]; done) | (simp only [sizeR] <;> omega) | fail)) only [↓preR, postR, ↓w_join, Nat.reduceEqDiff, Nat.reduceAdd, Nat.reduceSub, Nat.reduceMul, Int.reduceNeg, Nat.reduceLT, Int.reduceToNat, Nat.reduceLeDiff, Nat.sub_zero, h.ptr, h.row, e2, hl])
    exact hk _ (h.set ho.1 ho.2) ((Chg.refl _ _).put (.inl (by simp)) _)
theorem rread_e (h : Rst σ q r c y st) {b a n e : Int} {t : List UInt8} (he : readM st b a n = (t, e)) (hk : k (.tuple #[.string (bs t), .int .i64 e]) σ) :
    kCall Try.prog 18 [.pointer (some ⟨q, 0, none⟩), .int .i64 b, .int .i64 a, .int .i64 n] σ k := by
  have hf := h.few
  refine f18 ?_
  (try simp (maxSteps := 1000000) (dsimp := false) (disch := (first | omega | (simp only [okR]; done) | (simp only [sizeR] <;> omega) | fail)) only [↓preR, postR, ↓w_join, Nat.reduceEqDiff, Nat.reduceAdd, Nat.reduceSub, Nat.reduceMul, Int.reduceNeg, Nat.reduceLT, Int.reduceToNat, Nat.reduceLeDiff, Nat.sub_zero, F18])
  refine ris_c h b ?_
  cases hb : isT st b
  · simp only [readM, hb, Bool.false_eq_true, if_false, Prod.mk.injEq] at he
    obtain ⟨rfl, rfl⟩ := he
    (try simp (maxSteps := 1000000) (dsimp := false) (disch := (first | omega | (simp only [okR]; done) | (simp only [sizeR] <;> omega) | fail)) only [↓preR, postR, ↓w_join, Nat.reduceEqDiff, Nat.reduceAdd, Nat.reduceSub, Nat.reduceMul, Int.reduceNeg, Nat.reduceLT, Int.reduceToNat, Nat.reduceLeDiff, Nat.sub_zero])
    exact hk
  · obtain ⟨i, rfl, hi, h1⟩ := (isT_iff _ _).1 hb
    have e1 : tx st[i] = st[i].2 := by simp [tx, h1]
    have h64 := h.ok.get i hi
    by_cases hr : rdOk a n = true
    · simp only [readM, hb, if_true, hr, bytesM_at st i hi, Prod.mk.injEq] at he
      obtain ⟨rfl, rfl⟩ := he
      unfold rdOk at hr
      simp only [Bool.and_eq_true, decide_eq_true_eq] at hr
      have e3 : (a + n).toNat - a.toNat = n.toNat := by omega
      (try simp (maxSteps := 1000000) (dsimp := false) (disch := (first | omega | (simp only [okR]; done) | (simp only [sizeR] <;> omega) | fail)) only [↓preR, postR, ↓w_join, Nat.reduceEqDiff, Nat.reduceAdd, Nat.reduceSub, Nat.reduceMul, Int.reduceNeg, Nat.reduceLT, Int.reduceToNat, Nat.reduceLeDiff, Nat.sub_zero, h.ptr, h.row, rl_at st i hi y, e1, e3])
      exact hk
    · simp only [readM, hb, if_true, hr, Bool.false_eq_true, if_false, Prod.mk.injEq] at he
      obtain ⟨rfl, rfl⟩ := he
      unfold rdOk at hr
      simp only [Bool.and_eq_true, decide_eq_true_eq] at hr
      by_cases h2 : a < 0
      · (try simp (maxSteps := 1000000) (dsimp := false) (disch := (first | omega | (simp only [okR]; done) | (simp only [sizeR] <;> omega) | fail)) only [↓preR, postR, ↓w_join, Nat.reduceEqDiff, Nat.reduceAdd, Nat.reduceSub, Nat.reduceMul, Int.reduceNeg, Nat.reduceLT, Int.reduceToNat, Nat.reduceLeDiff, Nat.sub_zero]); exact hk
      by_cases h3 : n < 0
      · (try simp (maxSteps := 1000000) (dsimp := false) (disch := (first | omega | (simp only [okR]; done) | (simp only [sizeR] <;> omega) | fail)) only [↓preR, postR, ↓w_join, Nat.reduceEqDiff, Nat.reduceAdd, Nat.reduceSub, Nat.reduceMul, Int.reduceNeg, Nat.reduceLT, Int.reduceToNat, Nat.reduceLeDiff, Nat.sub_zero]); exact hk
      by_cases h4 : 64 < a
      · (try simp (maxSteps := 1000000) (dsimp := false) (disch := (first | omega | (simp only [okR]; done) | (simp only [sizeR] <;> omega) | fail)) only [↓preR, postR, ↓w_join, Nat.reduceEqDiff, Nat.reduceAdd, Nat.reduceSub, Nat.reduceMul, Int.reduceNeg, Nat.reduceLT, Int.reduceToNat, Nat.reduceLeDiff, Nat.sub_zero]); exact hk
      (try simp (maxSteps := 1000000) (dsimp := false) (disch := (first | omega | (simp only [okR]; done) | (simp only [sizeR] <;> omega) | fail)) only [↓preR, postR, ↓w_join, Nat.reduceEqDiff, Nat.reduceAdd, Nat.reduceSub, Nat.reduceMul, Int.reduceNeg, Nat.reduceLT, Int.reduceToNat, Nat.reduceLeDiff, Nat.sub_zero]); exact hk
theorem rwrite_e (h : Rst σ q r c y st) {b a e : Int} {t : List UInt8} (ht : t.length ≤ 100000) (he : writeM st b a t = (e, st')) (hk : ∀ σ', Rst σ' q r c y st' → Chg [q, r] σ σ' → k (.int .i64 e) σ') :
    kCall Try.prog 19 [.pointer (some ⟨q, 0, none⟩), .int .i64 b, .int .i64 a, .string (bs t)] σ k := by
  have hf := h.few
  refine f19 ?_
  (try simp (maxSteps := 1000000) (dsimp := false) (disch := (first | omega | (simp only [okR]; done) | (simp only [sizeR] <;> omega) | fail)) only [↓preR, postR, ↓w_join, Nat.reduceEqDiff, Nat.reduceAdd, Nat.reduceSub, Nat.reduceMul, Int.reduceNeg, Nat.reduceLT, Int.reduceToNat, Nat.reduceLeDiff, Nat.sub_zero, F19])
  refine ris_c h b ?_
  cases hb : isT st b
  · simp only [writeM, hb, Bool.false_eq_true, if_false, Prod.mk.injEq] at he
    obtain ⟨rfl, rfl⟩ := he
    (try simp (maxSteps := 1000000) (dsimp := false) (disch := (first | omega | (simp only [okR]; done) | (simp only [sizeR] <;> omega) | fail)) only [↓preR, postR, ↓w_join, Nat.reduceEqDiff, Nat.reduceAdd, Nat.reduceSub, Nat.reduceMul, Int.reduceNeg, Nat.reduceLT, Int.reduceToNat, Nat.reduceLeDiff, Nat.sub_zero])
    exact hk _ h (Chg.refl _ _)
  · obtain ⟨i, rfl, hi, h1⟩ := (isT_iff _ _).1 hb
    have e1 : tx st[i] = st[i].2 := by simp [tx, h1]
    have h64 := h.ok.get i hi
    have e0 : ((i : Int) + 1 - 1).toNat = i := by omega
    by_cases hr : rdOk a t.length = true
    · have ho := writeM_ok st (i + 1) a t h.ok
      simp only [writeM, hb, if_true, hr, bytesM_at st i hi, e0, Prod.mk.injEq] at he ho
      obtain ⟨rfl, rfl⟩ := he
      unfold rdOk at hr
      simp only [Bool.and_eq_true, decide_eq_true_eq] at hr
      obtain ⟨a, rfl⟩ : ∃ m : Nat, a = m := ⟨a.toNat, by omega⟩
      have e2 := rl_set st i hi y (true, lays st[i].2 a t)
      have e3 : tx (true, lays st[i].2 a t) = st[i].2.take a ++ t ++ st[i].2.drop (a + t.length) := rfl
      rw [e3] at e2
      have e4 : List.take (64 - (a + t.length)) (List.drop (a + t.length) st[i].2) = List.drop (a + t.length) st[i].2 := List.take_of_length_le (by rw [List.length_drop]; omega)
      have l1 : (List.take a st[i].2).length = a := by rw [List.length_take]; omega
      have l2 : (List.take a st[i].2 ++ t).length = a + t.length := by rw [List.length_append, l1]
      have l3 : (List.drop (a + t.length) st[i].2).length = 64 - (a + t.length) := by rw [List.length_drop, h64]
      have hl := rl_len st
      simp only [Int.toNat_natCast] at hk ho
      (try simp (maxSteps := 1000000) (dsimp := false) (disch := (first | omega | (simp only [okR]; done) | (simp only [sizeR] <;> omega) | fail)) only [↓preR, postR, ↓w_join, Nat.reduceEqDiff, Nat.reduceAdd, Nat.reduceSub, Nat.reduceMul, Int.reduceNeg, Nat.reduceLT, Int.reduceToNat, Nat.reduceLeDiff, Nat.sub_zero, h.ptr, h.row, rl_at st i hi y, e1, h64, tn_add, e4, e2, hl])
      exact hk _ (h.set ho.1 ho.2) ((Chg.refl _ _).put (.inl (by simp)) _)
    · simp only [writeM, hb, if_true, hr, Bool.false_eq_true, if_false, Prod.mk.injEq] at he
      obtain ⟨rfl, rfl⟩ := he
      unfold rdOk at hr
      simp only [Bool.and_eq_true, decide_eq_true_eq] at hr
      by_cases h2 : a < 0
      · (try simp (maxSteps := 1000000) (dsimp := false) (disch := (first | omega | (simp only [okR]; done) | (simp only [sizeR] <;> omega) | fail)) only [↓preR, postR, ↓w_join, Nat.reduceEqDiff, Nat.reduceAdd, Nat.reduceSub, Nat.reduceMul, Int.reduceNeg, Nat.reduceLT, Int.reduceToNat, Nat.reduceLeDiff, Nat.sub_zero]); exact hk _ h (Chg.refl _ _)
      by_cases h4 : 64 < a
      · (try simp (maxSteps := 1000000) (dsimp := false) (disch := (first | omega | (simp only [okR]; done) | (simp only [sizeR] <;> omega) | fail)) only [↓preR, postR, ↓w_join, Nat.reduceEqDiff, Nat.reduceAdd, Nat.reduceSub, Nat.reduceMul, Int.reduceNeg, Nat.reduceLT, Int.reduceToNat, Nat.reduceLeDiff, Nat.sub_zero]); exact hk _ h (Chg.refl _ _)
      (try simp (maxSteps := 1000000) (dsimp := false) (disch := (first | omega | (simp only [okR]; done) | (simp only [sizeR] <;> omega) | fail)) only [↓preR, postR, ↓w_join, Nat.reduceEqDiff, Nat.reduceAdd, Nat.reduceSub, Nat.reduceMul, Int.reduceNeg, Nat.reduceLT, Int.reduceToNat, Nat.reduceLeDiff, Nat.sub_zero]); exact hk _ h (Chg.refl _ _)
theorem rfree_c (h : Rst σ q r c y st) (hk : k (.int .i64 (free st)) σ) : kCall Try.prog 22 [.pointer (some ⟨q, 0, none⟩)] σ k := by
  have hf := h.few
  have hl := rl_len st
  refine f22 ?_
  (try simp (maxSteps := 1000000) (dsimp := false) (disch := (first | omega | (simp only [okR]; done) | (simp only [sizeR] <;> omega) | fail)) only [↓preR, postR, ↓w_join, Nat.reduceEqDiff, Nat.reduceAdd, Nat.reduceSub, Nat.reduceMul, Int.reduceNeg, Nat.reduceLT, Int.reduceToNat, Nat.reduceLeDiff, Nat.sub_zero, F22])
  refine loop_by (α := Nat) (fun i => [.int .i64 (free (st.take i)), .int .i64 (i + 1)]) (fun i => σ) (fun i => i ≤ st.length) (fun i => st.length - i) 0 (by omega) rfl rfl ?_
  intro i hi again hag
  dsimp only at hi hag ⊢
  by_cases hlt : i < st.length
  · have hx := tx_nil h.ok i hlt
    have hfs := free_le (st.take i)
    rw [List.length_take] at hfs
    have hsn : free (st.take (i + 1)) = free (st.take i) + (if st[i].1 then 0 else 1) := by
      rw [List.take_succ_eq_append_getElem hlt]
      simp only [free, List.countP_append, List.countP_cons, List.countP_nil]
      cases st[i].1 <;> simp
    cases hb : st[i].1
    · have hne : tx st[i] = [] := by rw [hx, hb]
      (try simp (maxSteps := 1000000) (dsimp := false) (disch := (first | omega | (simp only [okR]; done) | (simp only [sizeR] <;> omega) | fail)) only [↓preR, postR, ↓w_join, Nat.reduceEqDiff, Nat.reduceAdd, Nat.reduceSub, Nat.reduceMul, Int.reduceNeg, Nat.reduceLT, Int.reduceToNat, Nat.reduceLeDiff, Nat.sub_zero, h.ptr, h.row, rl_at st i hlt y, decT hne])
      have := hag (i + 1) (by omega) (by omega)
      rw [hsn, hb] at this
      simpa using this
    · have hne : ¬ tx st[i] = [] := by rw [hx, hb]; simp
      (try simp (maxSteps := 1000000) (dsimp := false) (disch := (first | omega | (simp only [okR]; done) | (simp only [sizeR] <;> omega) | fail)) only [↓preR, postR, ↓w_join, Nat.reduceEqDiff, Nat.reduceAdd, Nat.reduceSub, Nat.reduceMul, Int.reduceNeg, Nat.reduceLT, Int.reduceToNat, Nat.reduceLeDiff, Nat.sub_zero, h.ptr, h.row, rl_at st i hlt y, decF hne])
      have := hag (i + 1) (by omega) (by omega)
      rw [hsn, hb] at this
      simpa using this
  · have : i = st.length := by omega
    subst this
    rw [List.take_length]
    (try simp (maxSteps := 1000000) (dsimp := false) (disch := (first | omega | (simp only [okR]; done) | (simp only [sizeR] <;> omega) | fail)) only [↓preR, postR, ↓w_join, Nat.reduceEqDiff, Nat.reduceAdd, Nat.reduceSub, Nat.reduceMul, Int.reduceNeg, Nat.reduceLT, Int.reduceToNat, Nat.reduceLeDiff, Nat.sub_zero, h.ptr, hl])
    exact hk
theorem rcopy_c (h : Rst σ q r c y st) (hk : ∀ σ' q' r' c' y', σ.n ≤ q' → σ.n ≤ r' → Rst σ' q' r' c' y' st → Chg [] σ σ' → k (.pointer (some ⟨q', 0, none⟩)) σ') :
    kCall Try.prog 21 [.pointer (some ⟨q, 0, none⟩)] σ k := by
  have hf := h.few
  have hl := rl_len st
  refine f21 ?_
  (try simp (maxSteps := 1000000) (dsimp := false) (disch := (first | omega | (simp only [okR]; done) | (simp only [sizeR] <;> omega) | fail)) only [↓preR, postR, ↓w_join, Nat.reduceEqDiff, Nat.reduceAdd, Nat.reduceSub, Nat.reduceMul, Int.reduceNeg, Nat.reduceLT, Int.reduceToNat, Nat.reduceLeDiff, Nat.sub_zero, F21, h.ptr])
  refine app_by Try.underlying60 (by kernel_rfl : infB Try.prog 9 1 16 = true) (OwnV.nil σ 1) (m := st.length + 1) (news := rl st) ?_ ?_ (by omega) (by unfold maxLen; omega) ?_
  · rw [ldsM h.row _ 0 (by simp [hl]), List.drop_zero, Nat.mul_one, List.take_append_of_le_length (by omega), List.take_of_length_le (by omega)]
  · simp [rl, okCell]
  · intro v' σ' ho hc hg
    rcases ho with ⟨_, hn, _⟩ | ⟨g, c', sp, rfl, hm, _, _, hcap, _⟩
    · omega
    · simp only [Nat.zero_add, List.nil_append] at hm hcap ⊢
      have hgn := hg g (by simp [ownL])
      simp [ownL] at hgn
      have hlt := σ'.lt hm
      (try simp (maxSteps := 1000000) (dsimp := false) (disch := (first | omega | (simp only [okR]; done) | (simp only [sizeR] <;> omega) | fail)) only [↓preR, postR, ↓w_join, Nat.reduceEqDiff, Nat.reduceAdd, Nat.reduceSub, Nat.reduceMul, Int.reduceNeg, Nat.reduceLT, Int.reduceToNat, Nat.reduceLeDiff, Nat.sub_zero])
      refine hk _ σ'.n g c' sp hc.n (by omega) ⟨?_, ?_, by omega, h.ok, h.few, hcap⟩ (Chg.new (by simpa [ownL] using hc) _)
      · rw [new_eq_]
      · rw [new_ne (by omega)]; exact hm
end
end Go.Proofs.Ytfiknjogkpbgdaa
