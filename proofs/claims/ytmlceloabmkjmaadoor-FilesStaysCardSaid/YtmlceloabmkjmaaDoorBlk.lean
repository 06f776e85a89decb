/- What the methods of blocks.Store do: contracts over a list of blocks. Conditions: as each theorem says. -/
import Derived.Test.YtmlceloabmkjmaaDoorC
namespace Go.Proofs.YtmlceloabmkjmaaDoor
open E
set_option linter.unusedVariables false
set_option linter.unusedSimpArgs false
set_option maxHeartbeats 4000000

abbrev Bk := Bool × List UInt8
def u8 (x : UInt8) : Value := .int .u8 x.toNat
def encB (b : Bk) : List Value := .bool b.1 :: b.2.map u8
def encS (st : List Bk) : List Value := st.flatMap encB
def Ok64 (st : List Bk) : Prop := ∀ b ∈ st, b.2.length = 64

theorem encB_len (b : Bk) (h : b.2.length = 64) : (encB b).length = 65 := by simp [encB, h]
theorem encS_len (st : List Bk) (h : Ok64 st) : (encS st).length = st.length * 65 := by
  induction st with
  | nil => rfl
  | cons b r ih =>
    have h1 := encB_len b (h b (by simp))
    have h2 := ih (fun x hx => h x (by simp [hx]))
    simp only [encS, List.flatMap_cons, List.length_append, List.length_cons] at *
    rw [h1, h2]; omega
theorem encS_split (st : List Bk) (i : Nat) (hi : i < st.length) : encS st = encS (st.take i) ++ encB st[i] ++ encS (st.drop (i + 1)) := by
  have : st = st.take i ++ st[i] :: st.drop (i + 1) := by simp
  have h := congrArg encS this
  rw [h]
  simp only [encS, List.flatMap_append, List.flatMap_cons, List.append_assoc]
theorem Ok64.take {st : List Bk} (h : Ok64 st) (i : Nat) : Ok64 (st.take i) := fun b hb => h b (List.mem_of_mem_take hb)
theorem Ok64.get {st : List Bk} (h : Ok64 st) (i : Nat) (hi : i < st.length) : st[i].2.length = 64 := h _ (List.getElem_mem hi)
theorem Ok64.set {st : List Bk} (h : Ok64 st) (i : Nat) (b : Bk) (hb : b.2.length = 64) : Ok64 (st.set i b) := by
  intro x hx
  rcases List.mem_or_eq_of_mem_set hx with hx | rfl
  · exact h x hx
  · exact hb
theorem encS_take_len (st : List Bk) (h : Ok64 st) (i : Nat) (hi : i < st.length) : (encS (st.take i)).length = i * 65 := by
  rw [encS_len _ (h.take i), List.length_take]; congr 1; omega
theorem encS_at (st : List Bk) (h : Ok64 st) (i : Nat) (hi : i < st.length) (x : List Value) : (encS st ++ x)[i * 65]? = some (.bool st[i].1) := by
  rw [encS_split st i hi, List.append_assoc, List.append_assoc, List.getElem?_append_right (by rw [encS_take_len st h i hi]; omega), encS_take_len st h i hi]
  simp [encB]
theorem encS_block (st : List Bk) (h : Ok64 st) (i : Nat) (hi : i < st.length) (x : List Value) : ((encS st ++ x).drop (i * 65)).take 65 = encB st[i] := by
  rw [encS_split st i hi]
  have h1 := encS_take_len st h i hi
  have h2 := encB_len _ (h.get i hi)
  simp only [List.append_assoc]
  rw [← h1, List.drop_left, List.take_append_of_le_length (by omega), List.take_of_length_le (by omega)]
theorem encS_set (st : List Bk) (i : Nat) (hi : i < st.length) (b : Bk) : encS (st.set i b) = encS (st.take i) ++ encB b ++ encS (st.drop (i + 1)) := by
  rw [encS_split (st.set i b) i (by simpa using hi)]
  have h1 : (st.set i b).take i = st.take i := by
    rw [List.take_set, List.set_eq_of_length_le (by simp; omega)]
  have h2 : (st.set i b).drop (i + 1) = st.drop (i + 1) := by
    rw [List.drop_set_of_lt (by omega)]
  rw [h1, h2]; simp
theorem encS_store (st : List Bk) (h : Ok64 st) (i : Nat) (hi : i < st.length) (x : List Value) (b : Bk) :
    (encS st ++ x).take (i * 65) ++ encB b ++ (encS st ++ x).drop (i * 65 + 65) = encS (st.set i b) ++ x := by
  have h1 := encS_take_len st h i hi
  have h2 := encB_len _ (h.get i hi)
  rw [encS_set st i hi b, encS_split st i hi]
  simp only [List.append_assoc]
  rw [← h1, List.take_left, ← List.drop_drop, List.drop_left, ← h2, List.drop_left]
theorem encS_set1 (st : List Bk) (h : Ok64 st) (i : Nat) (hi : i < st.length) (x : List Value) (t : Bool) :
    (encS st ++ x).set (i * 65) (.bool t) = encS (st.set i (t, st[i].2)) ++ x := by
  have h1 := encS_take_len st h i hi
  rw [encS_set st i hi, encS_split st i hi]
  simp only [List.append_assoc]
  rw [← h1, List.set_append_right _ _ (Nat.le_refl _)]
  simp [encB]

theorem encS_bytes (st : List Bk) (h : Ok64 st) (i : Nat) (hi : i < st.length) (x : List Value) (a n : Nat) (hn : a + n ≤ 64) : ((encS st ++ x).drop (i * 65 + 1 + a)).take n = ((st[i].2.drop a).take n).map u8 := by
  have h1 := encS_block st h i hi x
  have h2 : (((encS st ++ x).drop (i * 65)).take 65).drop (1 + a) = (st[i].2.drop a).map u8 := by
    rw [h1, Nat.add_comm, encB, List.drop_succ_cons, List.map_drop]
  have h3 := congrArg (List.take n) h2
  rw [List.drop_take, List.take_take, List.drop_drop] at h3
  rw [show min n (65 - (1 + a)) = n from by omega] at h3
  rw [List.map_take, ← h3, Nat.add_assoc]
def free (st : List Bk) : Nat := st.countP (fun b => !b.1)
theorem free_le (st : List Bk) : free st ≤ st.length := List.countP_le_length


/-- Block p is a Store of these blocks, whose cells stand in block s. -/
structure Sto (σ : AS) (p s c : Nat) (x : List Value) (st : List Bk) : Prop where
  ptr : σ.m p = some (.cells [.slice (some ⟨s, 0, none⟩) st.length c, .int .i64 (free st)])
  row : σ.m s = some (.cells (encS st ++ x))
  ne : p ≠ s
  ok : Ok64 st
  few : st.length ≤ 4096
  cap : st.length ≤ c
  pos : 0 < st.length
theorem Sto.up {σ : AS} {p s c : Nat} {x : List Value} {st : List Bk} (h : Sto σ p s c x st) (j : Nat) : Sto (σ.up j) p s c x st := ⟨h.ptr, h.row, h.ne, h.ok, h.few, h.cap, h.pos⟩

theorem Sto.new {σ : AS} {p s c : Nat} {x : List Value} {st : List Bk} (h : Sto σ p s c x st) (ob : Ob) : Sto (σ.new ob) p s c x st := ⟨by rw [new_ne (by have := σ.lt h.ptr; omega)]; exact h.ptr, by rw [new_ne (by have := σ.lt h.row; omega)]; exact h.row, h.ne, h.ok, h.few, h.cap, h.pos⟩

section
variable {σ : AS} {k : Value → AS → Prop}
theorem take1 (b : Bk) (hk : ∀ j, k (.bool (!b.1)) (σ.up j)) : kCall Tryd.prog 74 [.agg (encB b).toArray] σ k := by
  refine kCall_wk (f74 ?_)
  (try simp (maxSteps := 1000000) (dsimp := false) (disch := (first | omega | (simp only [okR]; done) | (simp only [sizeR] <;> omega) | fail)) only [↓preR, postR, ↓w_join, Nat.reduceEqDiff, Nat.reduceAdd, Nat.reduceSub, Nat.reduceMul, Int.reduceNeg, Nat.reduceLT, Int.reduceToNat, Nat.reduceLeDiff, Nat.sub_zero, F74, encB])
  exact gar_end hk (by (repeat (first | exact Gar.refl _ | assumption | refine Gar.new ?_ _ | refine Gar.up ?_ _ | refine Gar.put ?_ (by first | omega | (simp only [sizeR] <;> omega)) _)))

/-- The first free block's index, -1: there is none. -/
def idxOf (st : List Bk) : Int := match st.findIdx? (fun b => !b.1) with | some i => i | none => -1
theorem idxOf_some (st : List Bk) (k : Nat) (hk : k < st.length) (h1 : ∀ j (hj : j < k), (st[j]'(by omega)).1 = true) (h2 : st[k].1 = false) : idxOf st = k := by
  have : st.findIdx? (fun b => !b.1) = some k := by
    rw [List.findIdx?_eq_some_iff_getElem]
    exact ⟨hk, by simp [h2], fun j hj => by simp [h1 j hj]⟩
  simp [idxOf, this]
theorem idxOf_none (st : List Bk) (h1 : ∀ j (hj : j < st.length), st[j].1 = true) : idxOf st = -1 := by
  have : st.findIdx? (fun b => !b.1) = none := by
    rw [List.findIdx?_eq_none_iff]
    intro b hb
    obtain ⟨j, hj, rfl⟩ := List.getElem_of_mem hb
    simp [h1 j hj]
  simp [idxOf, this]


theorem idx_any (st : List Bk) (s c : Nat) (x : List Value) (hb : σ.m s = some (.cells (encS st ++ x))) (ho : Ok64 st) (hn : st.length ≤ 4096) (hk : ∀ j, k (.int .i64 (idxOf st)) (σ.up j)) :
    kCall Tryd.prog 73 [.slice (some ⟨s, 0, none⟩) st.length c, .func (.func 74) #[] #[]] σ k := by
  refine kCall_wk (f73 ?_)
  (try simp (maxSteps := 1000000) (dsimp := false) (disch := (first | omega | (simp only [okR]; done) | (simp only [sizeR] <;> omega) | fail)) only [↓preR, postR, ↓w_join, Nat.reduceEqDiff, Nat.reduceAdd, Nat.reduceSub, Nat.reduceMul, Int.reduceNeg, Nat.reduceLT, Int.reduceToNat, Nat.reduceLeDiff, Nat.sub_zero, F73])
  have hl := encS_len st ho
  refine loop_by (α := Nat × Nat) (fun a => [.int .i64 a.1]) (fun a => σ.up a.2) (fun a => a.1 ≤ st.length ∧ ∀ j (hj : j < a.1) (hj' : j < st.length), st[j].1 = true) (fun a => st.length - a.1) (0, 0) ⟨by simp, by intro j hj; simp at hj⟩ rfl rfl ?_
  rintro ⟨i, j⟩ ⟨hi, hall⟩ again hag
  dsimp only at hi hall hag ⊢
  by_cases hlt : i < st.length
  · (try simp (maxSteps := 1000000) (dsimp := false) (disch := (first | omega | (simp only [okR]; done) | (simp only [sizeR] <;> omega) | fail)) only [↓preR, postR, ↓w_join, Nat.reduceEqDiff, Nat.reduceAdd, Nat.reduceSub, Nat.reduceMul, Int.reduceNeg, Nat.reduceLT, Int.reduceToNat, Nat.reduceLeDiff, Nat.sub_zero, ldNM (s := σ.up j) hb 65 (i * 65) (by simp [hl]; omega), encS_block st ho i hlt, w_callv (h := k74_ok)])
    refine take1 st[i] (fun j' => ?_)
    (try simp (maxSteps := 1000000) (dsimp := false) (disch := (first | omega | (simp only [okR]; done) | (simp only [sizeR] <;> omega) | fail)) only [↓preR, postR, ↓w_join, Nat.reduceEqDiff, Nat.reduceAdd, Nat.reduceSub, Nat.reduceMul, Int.reduceNeg, Nat.reduceLT, Int.reduceToNat, Nat.reduceLeDiff, Nat.sub_zero])
    refine cond_b (fun ht => ?_) (fun ht => ?_)
    · (try simp (maxSteps := 1000000) (dsimp := false) (disch := (first | omega | (simp only [okR]; done) | (simp only [sizeR] <;> omega) | fail)) only [↓preR, postR, ↓w_join, Nat.reduceEqDiff, Nat.reduceAdd, Nat.reduceSub, Nat.reduceMul, Int.reduceNeg, Nat.reduceLT, Int.reduceToNat, Nat.reduceLeDiff, Nat.sub_zero])
      have e := idxOf_some st i hlt (fun j hj => hall j hj (by omega)) (by simpa using ht)
      rw [← e]
      exact gar_end hk (by (repeat (first | exact Gar.refl _ | assumption | refine Gar.new ?_ _ | refine Gar.up ?_ _ | refine Gar.put ?_ (by first | omega | (simp only [sizeR] <;> omega)) _)))
    · (try simp (maxSteps := 1000000) (dsimp := false) (disch := (first | omega | (simp only [okR]; done) | (simp only [sizeR] <;> omega) | fail)) only [↓preR, postR, ↓w_join, Nat.reduceEqDiff, Nat.reduceAdd, Nat.reduceSub, Nat.reduceMul, Int.reduceNeg, Nat.reduceLT, Int.reduceToNat, Nat.reduceLeDiff, Nat.sub_zero])
      refine hag (i + 1, j + j') ⟨by omega, fun m hm hm' => ?_⟩ (by simp; omega)
      by_cases hmi : m = i
      · subst hmi; simpa using ht
      · exact hall m (by simp at hm; omega) hm'
  · (try simp (maxSteps := 1000000) (dsimp := false) (disch := (first | omega | (simp only [okR]; done) | (simp only [sizeR] <;> omega) | fail)) only [↓preR, postR, ↓w_join, Nat.reduceEqDiff, Nat.reduceAdd, Nat.reduceSub, Nat.reduceMul, Int.reduceNeg, Nat.reduceLT, Int.reduceToNat, Nat.reduceLeDiff, Nat.sub_zero])
    rw [← idxOf_none st (fun j hj => hall j (by omega) hj)]
    exact gar_end hk (by (repeat (first | exact Gar.refl _ | assumption | refine Gar.new ?_ _ | refine Gar.up ?_ _ | refine Gar.put ?_ (by first | omega | (simp only [sizeR] <;> omega)) _)))
/-- Is block b taken? -/
def tkn (st : List Bk) (b : Int) : Prop := ∃ i : Nat, b = i + 1 ∧ ∃ h : i < st.length, st[i].1 = true

def zero64 : List UInt8 := List.replicate 64 0
theorem free_set (st : List Bk) (i : Nat) (hi : i < st.length) (b : Bk) : free (st.set i b) + (if st[i].1 = false then 1 else 0) = free st + (if b.1 = false then 1 else 0) := by
  induction st generalizing i with
  | nil => simp at hi
  | cons a r ih =>
    cases i with
    | zero =>
      simp only [List.set_cons_zero, free, List.countP_cons, List.getElem_cons_zero]
      obtain ⟨a1, a2⟩ := a
      obtain ⟨b1, b2⟩ := b
      cases a1 <;> cases b1 <;> simp
    | succ i =>
      have := ih i (by simpa using hi)
      simp only [List.set_cons_succ, free, List.countP_cons, List.getElem_cons_succ] at *
      omega



/-- A store that has other blocks then. -/
def stoS (σ : AS) (p s c : Nat) (x : List Value) (st : List Bk) : AS := (σ.put s (.cells (encS st ++ x))).put p (.cells [.slice (some ⟨s, 0, none⟩) st.length c, .int .i64 (free st)])
variable {p s c : Nat} {x : List Value} {st st' : List Bk}
theorem stoS_n : (stoS σ p s c x st).n = σ.n := rfl
theorem stoS_c : (stoS σ p s c x st).c = σ.c := rfl
theorem stoS_ne {g : Nat} (h1 : g ≠ p) (h2 : g ≠ s) : (stoS σ p s c x st).m g = σ.m g := by rw [stoS, put_ne h1, put_ne h2]
theorem stoS_up {j : Nat} : (stoS σ p s c x st).up j = stoS (σ.up j) p s c x st := rfl
theorem stoS_two (h : p ≠ s) : stoS (stoS σ p s c x st) p s c x st' = stoS σ p s c x st' := by
  unfold stoS
  rw [put_comm (g := p) (h := s) h, put_put, put_put]
theorem stoS_same (h : Sto σ p s c x st) : stoS σ p s c x st = σ := by
  unfold stoS
  rw [put_same h.row, put_same h.ptr]
theorem Sto.set (h : Sto σ p s c x st) (hl : st'.length = st.length) (ho : Ok64 st') : Sto (stoS σ p s c x st') p s c x st' :=
  ⟨by unfold stoS; rw [put_eq, put_ne h.ne, h.ptr]; rfl, by unfold stoS; rw [put_ne h.ne.symm, put_eq, h.row]; rfl, h.ne, ho, by have := h.few; omega, by have := h.cap; omega, by have := h.pos; omega⟩

theorem at_some (h : Sto σ p s c x st) (i : Nat) (hi : i < st.length) (ht : st[i].1 = true) (hk : k (.pointer (some ⟨s, i * 65, none⟩)) σ) :
    kCall Tryd.prog 54 [.pointer (some ⟨p, 0, none⟩), .int .i64 (i + 1)] σ k := by
  have h1 := h.few
  have h2 := encS_at st h.ok i hi x
  rw [ht] at h2
  refine f54 ?_
  (try simp (maxSteps := 1000000) (dsimp := false) (disch := (first | omega | (simp only [okR]; done) | (simp only [sizeR] <;> omega) | fail)) only [↓preR, postR, ↓w_join, Nat.reduceEqDiff, Nat.reduceAdd, Nat.reduceSub, Nat.reduceMul, Int.reduceNeg, Nat.reduceLT, Int.reduceToNat, Nat.reduceLeDiff, Nat.sub_zero, F54, h.ptr, h.row, Int.add_sub_cancel, h2])
  exact hk
theorem at_none (h : Sto σ p s c x st) (b : Int) (ht : ¬ tkn st b) (hk : k (.pointer none) σ) :
    kCall Tryd.prog 54 [.pointer (some ⟨p, 0, none⟩), .int .i64 b] σ k := by
  have h1 := h.few
  refine f54 ?_
  by_cases hb : b < 1
  · (try simp (maxSteps := 1000000) (dsimp := false) (disch := (first | omega | (simp only [okR]; done) | (simp only [sizeR] <;> omega) | fail)) only [↓preR, postR, ↓w_join, Nat.reduceEqDiff, Nat.reduceAdd, Nat.reduceSub, Nat.reduceMul, Int.reduceNeg, Nat.reduceLT, Int.reduceToNat, Nat.reduceLeDiff, Nat.sub_zero, F54])
    exact hk
  · by_cases hn : (st.length : Int) < b
    · (try simp (maxSteps := 1000000) (dsimp := false) (disch := (first | omega | (simp only [okR]; done) | (simp only [sizeR] <;> omega) | fail)) only [↓preR, postR, ↓w_join, Nat.reduceEqDiff, Nat.reduceAdd, Nat.reduceSub, Nat.reduceMul, Int.reduceNeg, Nat.reduceLT, Int.reduceToNat, Nat.reduceLeDiff, Nat.sub_zero, F54, h.ptr])
      exact hk
    · obtain ⟨i, rfl⟩ : ∃ i : Nat, b = i + 1 := ⟨(b - 1).toNat, by omega⟩
      have hi : i < st.length := by omega
      have h2 := encS_at st h.ok i hi x
      have h3 : st[i].1 = false := by
        cases hc : st[i].1
        · rfl
        · exact absurd ⟨i, rfl, hi, hc⟩ ht
      rw [h3] at h2
      (try simp (maxSteps := 1000000) (dsimp := false) (disch := (first | omega | (simp only [okR]; done) | (simp only [sizeR] <;> omega) | fail)) only [↓preR, postR, ↓w_join, Nat.reduceEqDiff, Nat.reduceAdd, Nat.reduceSub, Nat.reduceMul, Int.reduceNeg, Nat.reduceLT, Int.reduceToNat, Nat.reduceLeDiff, Nat.sub_zero, F54, h.ptr, h.row, Int.add_sub_cancel, h2])
      exact hk

/-- Take: the first free block is taken, all zero. -/
theorem take_some (h : Sto σ p s c x st) (i : Nat) (hi : i < st.length) (hidx : idxOf st = i) (hf : st[i].1 = false)
    (hk : ∀ j, k (.tuple #[.int .i64 (i + 1), .int .i64 0]) (stoS (σ.up j) p s c x (st.set i (true, zero64)))) :
    kCall Tryd.prog 63 [.pointer (some ⟨p, 0, none⟩)] σ k := by
  have h1 := h.few
  have hfr := free_set st i hi (true, zero64)
  have hfl := free_le st
  rw [hf] at hfr
  simp only [if_true, Bool.true_eq_false, if_false] at hfr
  have hne := h.ne
  refine f63 ?_
  (try simp (maxSteps := 1000000) (dsimp := false) (disch := (first | omega | (simp only [okR]; done) | (simp only [sizeR] <;> omega) | fail)) only [↓preR, postR, ↓w_join, Nat.reduceEqDiff, Nat.reduceAdd, Nat.reduceSub, Nat.reduceMul, Int.reduceNeg, Nat.reduceLT, Int.reduceToNat, Nat.reduceLeDiff, Nat.sub_zero, F63, h.ptr])
  refine idx_any st s c x h.row h.ok h.few (fun j => ?_)
  rw [hidx]
  have hl := encS_len st h.ok
  have e : (Value.bool true :: List.replicate 64 (Value.int .u8 0)) = encB (true, zero64) := by
    simp only [encB, zero64, List.map_replicate]; rfl
  have e2 := encS_store st h.ok i hi x (true, zero64)
  have e3 : ((free st : Int) - 1) = ((free (st.set i (true, zero64)) : Nat) : Int) := by omega
  (try simp (maxSteps := 1000000) (dsimp := false) (disch := (first | omega | (simp only [okR]; done) | (simp only [sizeR] <;> omega) | fail)) only [↓preR, postR, ↓w_join, Nat.reduceEqDiff, Nat.reduceAdd, Nat.reduceSub, Nat.reduceMul, Int.reduceNeg, Nat.reduceLT, Int.reduceToNat, Nat.reduceLeDiff, Nat.sub_zero, h.ptr, h.row, stN 65 s (i * 65) (encB (true, zero64)) (encS st ++ x) (by decide) (by decide), e, e2, e3, List.length_append, hl])
  have := hk j
  simp only [stoS, List.length_set] at this
  exact this
theorem take_none (h : Sto σ p s c x st) (hidx : idxOf st = -1) (hk : ∀ j, k (.tuple #[.int .i64 0, .int .i64 20]) (σ.up j)) :
    kCall Tryd.prog 63 [.pointer (some ⟨p, 0, none⟩)] σ k := by
  refine f63 ?_
  (try simp (maxSteps := 1000000) (dsimp := false) (disch := (first | omega | (simp only [okR]; done) | (simp only [sizeR] <;> omega) | fail)) only [↓preR, postR, ↓w_join, Nat.reduceEqDiff, Nat.reduceAdd, Nat.reduceSub, Nat.reduceMul, Int.reduceNeg, Nat.reduceLT, Int.reduceToNat, Nat.reduceLeDiff, Nat.sub_zero, F63, h.ptr])
  refine idx_any st s c x h.row h.ok h.few (fun j => ?_)
  rw [hidx]
  (try simp (maxSteps := 1000000) (dsimp := false) (disch := (first | omega | (simp only [okR]; done) | (simp only [sizeR] <;> omega) | fail)) only [↓preR, postR, ↓w_join, Nat.reduceEqDiff, Nat.reduceAdd, Nat.reduceSub, Nat.reduceMul, Int.reduceNeg, Nat.reduceLT, Int.reduceToNat, Nat.reduceLeDiff, Nat.sub_zero])
  exact hk j
theorem give_some (h : Sto σ p s c x st) (i : Nat) (hi : i < st.length) (ht : st[i].1 = true) (hk : k (.int .i64 0) (stoS σ p s c x (st.set i (false, st[i].2)))) :
    kCall Tryd.prog 62 [.pointer (some ⟨p, 0, none⟩), .int .i64 (i + 1)] σ k := by
  have h1 := h.few
  have hne := h.ne
  have hfr := free_set st i hi (false, st[i].2)
  have hfl := free_le (st.set i (false, st[i].2))
  rw [ht] at hfr
  simp only [if_true, Bool.true_eq_false, if_false, List.length_set] at hfr hfl
  have hl := encS_len st h.ok
  have hlt : i * 65 < (encS st ++ x).length := by simp [hl]; omega
  refine f62 ?_
  (try simp (maxSteps := 1000000) (dsimp := false) (disch := (first | omega | (simp only [okR]; done) | (simp only [sizeR] <;> omega) | fail)) only [↓preR, postR, ↓w_join, Nat.reduceEqDiff, Nat.reduceAdd, Nat.reduceSub, Nat.reduceMul, Int.reduceNeg, Nat.reduceLT, Int.reduceToNat, Nat.reduceLeDiff, Nat.sub_zero, F62])
  refine at_some h i hi ht ?_
  have e : ((free st : Int) + 1) = ((free (st.set i (false, st[i].2)) : Nat) : Int) := by omega
  (try simp (maxSteps := 1000000) (dsimp := false) (disch := (first | omega | (simp only [okR]; done) | (simp only [sizeR] <;> omega) | fail)) only [↓preR, postR, ↓w_join, Nat.reduceEqDiff, Nat.reduceAdd, Nat.reduceSub, Nat.reduceMul, Int.reduceNeg, Nat.reduceLT, Int.reduceToNat, Nat.reduceLeDiff, Nat.sub_zero, h.ptr, h.row, encS_set1 st h.ok i hi x, e])
  simp only [stoS, List.length_set] at hk
  exact hk
theorem give_none (h : Sto σ p s c x st) (b : Int) (ht : ¬ tkn st b) (hk : k (.int .i64 23) σ) :
    kCall Tryd.prog 62 [.pointer (some ⟨p, 0, none⟩), .int .i64 b] σ k := by
  refine f62 ?_
  (try simp (maxSteps := 1000000) (dsimp := false) (disch := (first | omega | (simp only [okR]; done) | (simp only [sizeR] <;> omega) | fail)) only [↓preR, postR, ↓w_join, Nat.reduceEqDiff, Nat.reduceAdd, Nat.reduceSub, Nat.reduceMul, Int.reduceNeg, Nat.reduceLT, Int.reduceToNat, Nat.reduceLeDiff, Nat.sub_zero, F62])
  refine at_none h b ht ?_
  (try simp (maxSteps := 1000000) (dsimp := false) (disch := (first | omega | (simp only [okR]; done) | (simp only [sizeR] <;> omega) | fail)) only [↓preR, postR, ↓w_join, Nat.reduceEqDiff, Nat.reduceAdd, Nat.reduceSub, Nat.reduceMul, Int.reduceNeg, Nat.reduceLT, Int.reduceToNat, Nat.reduceLeDiff, Nat.sub_zero])
  exact hk
theorem free_any (h : Sto σ p s c x st) (hk : k (.int .i64 (free st)) σ) : kCall Tryd.prog 46 [.pointer (some ⟨p, 0, none⟩)] σ k := by
  refine f46 ?_
  (try simp (maxSteps := 1000000) (dsimp := false) (disch := (first | omega | (simp only [okR]; done) | (simp only [sizeR] <;> omega) | fail)) only [↓preR, postR, ↓w_join, Nat.reduceEqDiff, Nat.reduceAdd, Nat.reduceSub, Nat.reduceMul, Int.reduceNeg, Nat.reduceLT, Int.reduceToNat, Nat.reduceLeDiff, Nat.sub_zero, F46, h.ptr])
  exact hk
theorem read_some (h : Sto σ p s c x st) (i : Nat) (hi : i < st.length) (ht : st[i].1 = true) (a n : Nat) (hn : a + n ≤ 64) (hk : k (.tuple #[.string (bs ((st[i].2.drop a).take n)), .int .i64 0]) σ) :
    kCall Tryd.prog 44 [.pointer (some ⟨p, 0, none⟩), .int .i64 (i + 1), .int .i64 a, .int .i64 n] σ k := by
  have hl := encS_len st h.ok
  have h64 := h.ok.get i hi
  refine f44 ?_
  (try simp (maxSteps := 1000000) (dsimp := false) (disch := (first | omega | (simp only [okR]; done) | (simp only [sizeR] <;> omega) | fail)) only [↓preR, postR, ↓w_join, Nat.reduceEqDiff, Nat.reduceAdd, Nat.reduceSub, Nat.reduceMul, Int.reduceNeg, Nat.reduceLT, Int.reduceToNat, Nat.reduceLeDiff, Nat.sub_zero, F44])
  refine at_some h i hi ht ?_
  (try simp (maxSteps := 1000000) (dsimp := false) (disch := (first | omega | (simp only [okR]; done) | (simp only [sizeR] <;> omega) | fail)) only [↓preR, postR, ↓w_join, Nat.reduceEqDiff, Nat.reduceAdd, Nat.reduceSub, Nat.reduceMul, Int.reduceNeg, Nat.reduceLT, Int.reduceToNat, Nat.reduceLeDiff, Nat.sub_zero, Nat.add_sub_cancel_left])
  by_cases ha : 64 = a
  · subst ha
    obtain rfl : n = 0 := by omega
    rw [if_pos rfl]
    refine cvb_by (l := []) rfl rfl ?_
    rw [List.take_zero] at hk
    exact hk
  · rw [if_neg ha]
    refine cvb_by (l := (st[i].2.drop a).take n) (by simp; omega) ?_ hk
    rw [ldsM h.row n (i * 65 + 1 + a) (by simp [hl]; omega), encS_bytes st h.ok i hi x a n hn]
    rfl
theorem read_none (h : Sto σ p s c x st) (b a n : Int) (ht : ¬ tkn st b) (hk : k (.tuple #[.string (bs []), .int .i64 23]) σ) :
    kCall Tryd.prog 44 [.pointer (some ⟨p, 0, none⟩), .int .i64 b, .int .i64 a, .int .i64 n] σ k := by
  refine f44 ?_
  (try simp (maxSteps := 1000000) (dsimp := false) (disch := (first | omega | (simp only [okR]; done) | (simp only [sizeR] <;> omega) | fail)) only [↓preR, postR, ↓w_join, Nat.reduceEqDiff, Nat.reduceAdd, Nat.reduceSub, Nat.reduceMul, Int.reduceNeg, Nat.reduceLT, Int.reduceToNat, Nat.reduceLeDiff, Nat.sub_zero, F44])
  refine at_none h b ht ?_
  (try simp (maxSteps := 1000000) (dsimp := false) (disch := (first | omega | (simp only [okR]; done) | (simp only [sizeR] <;> omega) | fail)) only [↓preR, postR, ↓w_join, Nat.reduceEqDiff, Nat.reduceAdd, Nat.reduceSub, Nat.reduceMul, Int.reduceNeg, Nat.reduceLT, Int.reduceToNat, Nat.reduceLeDiff, Nat.sub_zero])
  exact hk
theorem read_arg (h : Sto σ p s c x st) (i : Nat) (hi : i < st.length) (ht : st[i].1 = true) (a n : Int) (hn : a < 0 ∨ 64 < a ∨ n < 0 ∨ 64 - a < n) (hk : k (.tuple #[.string (bs []), .int .i64 1]) σ) :
    kCall Tryd.prog 44 [.pointer (some ⟨p, 0, none⟩), .int .i64 (i + 1), .int .i64 a, .int .i64 n] σ k := by
  refine f44 ?_
  (try simp (maxSteps := 1000000) (dsimp := false) (disch := (first | omega | (simp only [okR]; done) | (simp only [sizeR] <;> omega) | fail)) only [↓preR, postR, ↓w_join, Nat.reduceEqDiff, Nat.reduceAdd, Nat.reduceSub, Nat.reduceMul, Int.reduceNeg, Nat.reduceLT, Int.reduceToNat, Nat.reduceLeDiff, Nat.sub_zero, F44])
  refine at_some h i hi ht ?_
  by_cases h1 : a < 0
  · (try simp (maxSteps := 1000000) (dsimp := false) (disch := (first | omega | (simp only [okR]; done) | (simp only [sizeR] <;> omega) | fail)) only [↓preR, postR, ↓w_join, Nat.reduceEqDiff, Nat.reduceAdd, Nat.reduceSub, Nat.reduceMul, Int.reduceNeg, Nat.reduceLT, Int.reduceToNat, Nat.reduceLeDiff, Nat.sub_zero]); exact hk
  by_cases h2 : 64 < a
  · (try simp (maxSteps := 1000000) (dsimp := false) (disch := (first | omega | (simp only [okR]; done) | (simp only [sizeR] <;> omega) | fail)) only [↓preR, postR, ↓w_join, Nat.reduceEqDiff, Nat.reduceAdd, Nat.reduceSub, Nat.reduceMul, Int.reduceNeg, Nat.reduceLT, Int.reduceToNat, Nat.reduceLeDiff, Nat.sub_zero]); exact hk
  by_cases h3 : n < 0
  · (try simp (maxSteps := 1000000) (dsimp := false) (disch := (first | omega | (simp only [okR]; done) | (simp only [sizeR] <;> omega) | fail)) only [↓preR, postR, ↓w_join, Nat.reduceEqDiff, Nat.reduceAdd, Nat.reduceSub, Nat.reduceMul, Int.reduceNeg, Nat.reduceLT, Int.reduceToNat, Nat.reduceLeDiff, Nat.sub_zero]); exact hk
  (try simp (maxSteps := 1000000) (dsimp := false) (disch := (first | omega | (simp only [okR]; done) | (simp only [sizeR] <;> omega) | fail)) only [↓preR, postR, ↓w_join, Nat.reduceEqDiff, Nat.reduceAdd, Nat.reduceSub, Nat.reduceMul, Int.reduceNeg, Nat.reduceLT, Int.reduceToNat, Nat.reduceLeDiff, Nat.sub_zero]); exact hk
def fresh (n : Nat) : List Bk := List.replicate n (false, zero64)
theorem encS_fresh (n : Nat) : (List.replicate n (Value.bool false :: List.replicate 64 (Value.int .u8 0))).flatten = encS (fresh n) := by
  have e : (Value.bool false :: List.replicate 64 (Value.int .u8 0)) = encB (false, zero64) := by
    simp only [encB, zero64, List.map_replicate]; rfl
  rw [e]
  induction n with
  | zero => rfl
  | succ n ih => simp only [List.replicate_succ, List.flatten_cons, fresh, encS, List.flatMap_cons] at *; rw [ih]
theorem ok_fresh (n : Nat) : Ok64 (fresh n) := by
  intro b hb
  rw [List.eq_of_mem_replicate hb]; rfl
theorem free_fresh (n : Nat) : free (fresh n) = n := by
  simp [free, fresh, List.countP_replicate]


theorem new_some (n : Nat) (h1 : 1 ≤ n) (h2 : n ≤ 4096) (hk : ∀ σ' p s, σ.n ≤ p → σ.n ≤ s → Gar σ σ' → Sto σ' p s n [] (fresh n) → k (.tuple #[.pointer (some ⟨p, 0, none⟩), .int .i64 0]) σ') :
    kCall Tryd.prog 35 [.int .i64 n] σ k := by
  refine f35 ?_
  have e0 : ((Value.bool false) :: List.replicate 64 (Value.int .u8 0)).length = 65 := by simp
  (try simp (maxSteps := 1000000) (dsimp := false) (disch := (first | omega | (simp only [okR]; done) | (simp only [sizeR] <;> omega) | fail)) only [↓preR, postR, ↓w_join, Nat.reduceEqDiff, Nat.reduceAdd, Nat.reduceSub, Nat.reduceMul, Int.reduceNeg, Nat.reduceLT, Int.reduceToNat, Nat.reduceLeDiff, Nat.sub_zero, F35, e0, encS_fresh])
  refine hk _ (σ.n + 1) σ.n (by omega) (by omega) (by (repeat (first | exact Gar.refl _ | assumption | refine Gar.new ?_ _ | refine Gar.up ?_ _ | refine Gar.put ?_ (by first | omega | (simp only [sizeR] <;> omega)) _))) ⟨?_, ?_, by omega, ok_fresh n, by simpa [fresh] using h2, by simp [fresh], by simp [fresh]; omega⟩
  · (try simp (maxSteps := 1000000) (dsimp := false) (disch := (first | omega | (simp only [okR]; done) | (simp only [sizeR] <;> omega) | fail)) only [↓preR, postR, ↓w_join, Nat.reduceEqDiff, Nat.reduceAdd, Nat.reduceSub, Nat.reduceMul, Int.reduceNeg, Nat.reduceLT, Int.reduceToNat, Nat.reduceLeDiff, Nat.sub_zero, free_fresh]); simp [fresh]
  · (try simp (maxSteps := 1000000) (dsimp := false) (disch := (first | omega | (simp only [okR]; done) | (simp only [sizeR] <;> omega) | fail)) only [↓preR, postR, ↓w_join, Nat.reduceEqDiff, Nat.reduceAdd, Nat.reduceSub, Nat.reduceMul, Int.reduceNeg, Nat.reduceLT, Int.reduceToNat, Nat.reduceLeDiff, Nat.sub_zero])
theorem new_arg (n : Int) (h : n < 1 ∨ 4096 < n) (hk : k (.tuple #[.pointer none, .int .i64 1]) σ) : kCall Tryd.prog 35 [.int .i64 n] σ k := by
  refine f35 ?_
  by_cases h1 : n < 1
  · (try simp (maxSteps := 1000000) (dsimp := false) (disch := (first | omega | (simp only [okR]; done) | (simp only [sizeR] <;> omega) | fail)) only [↓preR, postR, ↓w_join, Nat.reduceEqDiff, Nat.reduceAdd, Nat.reduceSub, Nat.reduceMul, Int.reduceNeg, Nat.reduceLT, Int.reduceToNat, Nat.reduceLeDiff, Nat.sub_zero, F35]); exact hk
  · (try simp (maxSteps := 1000000) (dsimp := false) (disch := (first | omega | (simp only [okR]; done) | (simp only [sizeR] <;> omega) | fail)) only [↓preR, postR, ↓w_join, Nat.reduceEqDiff, Nat.reduceAdd, Nat.reduceSub, Nat.reduceMul, Int.reduceNeg, Nat.reduceLT, Int.reduceToNat, Nat.reduceLeDiff, Nat.sub_zero, F35]); exact hk
end

/-- s laid into b from a on. -/
def lays (b : List UInt8) (a : Nat) (s : List UInt8) : List UInt8 := b.take a ++ s ++ b.drop (a + s.length)
theorem lays_len (b : List UInt8) (a : Nat) (s : List UInt8) (h : a + s.length ≤ b.length) : (lays b a s).length = b.length := by
  simp [lays]; omega
theorem drop_add {α : Type} (A B : List α) (n : Nat) : (A ++ B).drop (A.length + n) = B.drop n := by
  rw [← List.drop_drop, List.drop_left]
theorem encS_write (st : List Bk) (h : Ok64 st) (i : Nat) (hi : i < st.length) (x : List Value) (a : Nat) (s : List UInt8) (hs : a + s.length ≤ 64) :
    (encS st ++ x).take (i * 65 + 1 + a) ++ (s.map fun b => Value.int .u8 b.toNat) ++ (encS st ++ x).drop (i * 65 + 1 + a + s.length) = encS (st.set i (st[i].1, lays st[i].2 a s)) ++ x := by
  have h1 := encS_take_len st h i hi
  have h3 := h.get i hi
  rw [encS_set st i hi, encS_split st i hi]
  simp only [List.append_assoc]
  rw [show i * 65 + 1 + a = (encS (st.take i)).length + (1 + a) from by omega, List.take_append, List.take_of_length_le (by omega), show (encS (st.take i)).length + (1 + a) - (encS (st.take i)).length = 1 + a from by omega]
  rw [show (encS (st.take i)).length + (1 + a) + s.length = (encS (st.take i)).length + (1 + a + s.length) from by omega, drop_add]
  rw [List.take_append_of_le_length (by simp [encB, h3]; omega), List.drop_append_of_le_length (by simp [encB, h3]; omega)]
  simp only [encB, lays, List.map_append, List.append_assoc, Nat.add_comm 1 a, List.take_succ_cons, List.map_take, List.cons_append, List.append_cancel_left_eq, List.cons.injEq, true_and]
  rw [show a + 1 + s.length = (a + s.length) + 1 from by omega, List.drop_succ_cons, List.map_drop]
  rfl


section
variable {σ : AS} {k : Value → AS → Prop} {p s c : Nat} {x : List Value} {st st' : List Bk}
theorem write_some (h : Sto σ p s c x st) (i : Nat) (hi : i < st.length) (ht : st[i].1 = true) (a : Nat) (t : List UInt8) (hn : a + t.length ≤ 64) (hk : k (.int .i64 0) (stoS σ p s c x (st.set i (true, lays st[i].2 a t)))) :
    kCall Tryd.prog 52 [.pointer (some ⟨p, 0, none⟩), .int .i64 (i + 1), .int .i64 a, .string (bs t)] σ k := by
  have hl := encS_len st h.ok
  have h64 := h.ok.get i hi
  have hne := h.ne
  have hfr := free_set st i hi (true, lays st[i].2 a t)
  rw [ht] at hfr
  simp only [Bool.true_eq_false, if_false, Nat.add_zero] at hfr
  have e0 : stoS σ p s c x (st.set i (true, lays st[i].2 a t)) = σ.put s (.cells (encS (st.set i (true, lays st[i].2 a t)) ++ x)) := by
    unfold stoS
    rw [put_same]
    rw [put_ne hne, h.ptr, List.length_set, hfr]
  rw [e0] at hk
  refine f52 ?_
  (try simp (maxSteps := 1000000) (dsimp := false) (disch := (first | omega | (simp only [okR]; done) | (simp only [sizeR] <;> omega) | fail)) only [↓preR, postR, ↓w_join, Nat.reduceEqDiff, Nat.reduceAdd, Nat.reduceSub, Nat.reduceMul, Int.reduceNeg, Nat.reduceLT, Int.reduceToNat, Nat.reduceLeDiff, Nat.sub_zero, F52])
  refine at_some h i hi ht ?_
  (try simp (maxSteps := 1000000) (dsimp := false) (disch := (first | omega | (simp only [okR]; done) | (simp only [sizeR] <;> omega) | fail)) only [↓preR, postR, ↓w_join, Nat.reduceEqDiff, Nat.reduceAdd, Nat.reduceSub, Nat.reduceMul, Int.reduceNeg, Nat.reduceLT, Int.reduceToNat, Nat.reduceLeDiff, Nat.sub_zero])
  have hw := encS_write st h.ok i hi x a t hn
  rw [ht] at hw
  by_cases ha : 64 = a
  · subst ha
    have : t = [] := List.eq_nil_of_length_eq_zero (by omega)
    subst this
    rw [if_pos rfl]
    have hw0 := encS_write st h.ok i hi x 0 [] (by simp)
    rw [ht] at hw0
    have e : lays st[i].2 0 [] = lays st[i].2 64 [] := by simp [lays]
    refine cpy_str Tryd.underlying88 (by kernel_rfl : szOf Tryd.prog 5 = some 1) h.row (by simp) (by simp [hl]; omega) ?_
    rw [e] at hw0
    rw [show i * 65 + 1 + ([] : List UInt8).length = i * 65 + 1 + 0 + ([] : List UInt8).length from rfl, show (encS st ++ x).take (i * 65 + 1) = (encS st ++ x).take (i * 65 + 1 + 0) from rfl, hw0]
    exact hk
  · rw [if_neg ha]
    refine cpy_str Tryd.underlying88 (by kernel_rfl : szOf Tryd.prog 5 = some 1) h.row (by omega) (by simp [hl]; omega) ?_
    rw [hw]
    exact hk
theorem write_none (h : Sto σ p s c x st) (b a : Int) (t : List UInt8) (ht : ¬ tkn st b) (hk : k (.int .i64 23) σ) :
    kCall Tryd.prog 52 [.pointer (some ⟨p, 0, none⟩), .int .i64 b, .int .i64 a, .string (bs t)] σ k := by
  refine f52 ?_
  (try simp (maxSteps := 1000000) (dsimp := false) (disch := (first | omega | (simp only [okR]; done) | (simp only [sizeR] <;> omega) | fail)) only [↓preR, postR, ↓w_join, Nat.reduceEqDiff, Nat.reduceAdd, Nat.reduceSub, Nat.reduceMul, Int.reduceNeg, Nat.reduceLT, Int.reduceToNat, Nat.reduceLeDiff, Nat.sub_zero, F52])
  refine at_none h b ht ?_
  (try simp (maxSteps := 1000000) (dsimp := false) (disch := (first | omega | (simp only [okR]; done) | (simp only [sizeR] <;> omega) | fail)) only [↓preR, postR, ↓w_join, Nat.reduceEqDiff, Nat.reduceAdd, Nat.reduceSub, Nat.reduceMul, Int.reduceNeg, Nat.reduceLT, Int.reduceToNat, Nat.reduceLeDiff, Nat.sub_zero])
  exact hk
theorem write_arg (h : Sto σ p s c x st) (i : Nat) (hi : i < st.length) (ht : st[i].1 = true) (a : Int) (t : List UInt8) (hn : a < 0 ∨ 64 < a ∨ 64 - a < t.length) (hk : k (.int .i64 1) σ) :
    kCall Tryd.prog 52 [.pointer (some ⟨p, 0, none⟩), .int .i64 (i + 1), .int .i64 a, .string (bs t)] σ k := by
  refine f52 ?_
  (try simp (maxSteps := 1000000) (dsimp := false) (disch := (first | omega | (simp only [okR]; done) | (simp only [sizeR] <;> omega) | fail)) only [↓preR, postR, ↓w_join, Nat.reduceEqDiff, Nat.reduceAdd, Nat.reduceSub, Nat.reduceMul, Int.reduceNeg, Nat.reduceLT, Int.reduceToNat, Nat.reduceLeDiff, Nat.sub_zero, F52])
  refine at_some h i hi ht ?_
  by_cases h1 : a < 0
  · (try simp (maxSteps := 1000000) (dsimp := false) (disch := (first | omega | (simp only [okR]; done) | (simp only [sizeR] <;> omega) | fail)) only [↓preR, postR, ↓w_join, Nat.reduceEqDiff, Nat.reduceAdd, Nat.reduceSub, Nat.reduceMul, Int.reduceNeg, Nat.reduceLT, Int.reduceToNat, Nat.reduceLeDiff, Nat.sub_zero]); exact hk
  by_cases h2 : 64 < a
  · (try simp (maxSteps := 1000000) (dsimp := false) (disch := (first | omega | (simp only [okR]; done) | (simp only [sizeR] <;> omega) | fail)) only [↓preR, postR, ↓w_join, Nat.reduceEqDiff, Nat.reduceAdd, Nat.reduceSub, Nat.reduceMul, Int.reduceNeg, Nat.reduceLT, Int.reduceToNat, Nat.reduceLeDiff, Nat.sub_zero]); exact hk
  (try simp (maxSteps := 1000000) (dsimp := false) (disch := (first | omega | (simp only [okR]; done) | (simp only [sizeR] <;> omega) | fail)) only [↓preR, postR, ↓w_join, Nat.reduceEqDiff, Nat.reduceAdd, Nat.reduceSub, Nat.reduceMul, Int.reduceNeg, Nat.reduceLT, Int.reduceToNat, Nat.reduceLeDiff, Nat.sub_zero]); exact hk
end
end Go.Proofs.YtmlceloabmkjmaaDoor
