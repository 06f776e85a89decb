/- What the methods of blocks.Store do: contracts over a list of blocks. Conditions: as each theorem says. -/
import Derived.Test.YtfiknjogkpbgdaaC
namespace Go.Proofs.Ytfiknjogkpbgdaa
open E
set_option linter.unusedVariables false
set_option linter.unusedSimpArgs false
set_option maxHeartbeats 4000000

abbrev Bk := Bool × List UInt8
def u8 (x : UInt8) : Value := .int .u8 x.toNat
def encB (b : Bk) : List Value := .bool b.1 :: b.2.map u8
def encS (st : List Bk) : List Value := st.flatMap encB
def Ok64 (st : List Bk) : Prop := ∀ b ∈ st, b.2.length = 64

theorem encB_len (b : Bk) (h : b.2.length = 64) : (encB b).length = 65 := by simp [encB, h]
theorem encS_len (st : List Bk) (h : Ok64 st) : (encS st).length = st.length * 65 := by
  induction st with
  | nil => rfl
  | cons b r ih =>
    have h1 := encB_len b (h b (by simp))
    have h2 := ih (fun x hx => h x (by simp [hx]))
    simp only [encS, List.flatMap_cons, List.length_append, List.length_cons] at *
    rw [h1, h2]; omega
theorem encS_split (st : List Bk) (i : Nat) (hi : i < st.length) : encS st = encS (st.take i) ++ encB st[i] ++ encS (st.drop (i + 1)) := by
  have : st = st.take i ++ st[i] :: st.drop (i + 1) := by simp
  have h := congrArg encS this
  rw [h]
  simp only [encS, List.flatMap_append, List.flatMap_cons, List.append_assoc]
theorem Ok64.take {st : List Bk} (h : Ok64 st) (i : Nat) : Ok64 (st.take i) := fun b hb => h b (List.mem_of_mem_take hb)
theorem Ok64.get {st : List Bk} (h : Ok64 st) (i : Nat) (hi : i < st.length) : st[i].2.length = 64 := h _ (List.getElem_mem hi)
theorem Ok64.set {st : List Bk} (h : Ok64 st) (i : Nat) (b : Bk) (hb : b.2.length = 64) : Ok64 (st.set i b) := by
  intro x hx
  rcases List.mem_or_eq_of_mem_set hx with hx | rfl
  · exact h x hx
  · exact hb
theorem encS_take_len (st : List Bk) (h : Ok64 st) (i : Nat) (hi : i < st.length) : (encS (st.take i)).length = i * 65 := by
  rw [encS_len _ (h.take i), List.length_take]; congr 1; omega
theorem encS_at (st : List Bk) (h : Ok64 st) (i : Nat) (hi : i < st.length) (x : List Value) : (encS st ++ x)[i * 65]? = some (.bool st[i].1) := by
  rw [encS_split st i hi, List.append_assoc, List.append_assoc, List.getElem?_append_right (by rw [encS_take_len st h i hi]; omega), encS_take_len st h i hi]
  simp [encB]
theorem encS_block (st : List Bk) (h : Ok64 st) (i : Nat) (hi : i < st.length) (x : List Value) : ((encS st ++ x).drop (i * 65)).take 65 = encB st[i] := by
  rw [encS_split st i hi]
  have h1 := encS_take_len st h i hi
  have h2 := encB_len _ (h.get i hi)
  simp only [List.append_assoc]
  rw [← h1, List.drop_left, List.take_append_of_le_length (by omega), List.take_of_length_le (by omega)]
theorem encS_set (st : List Bk) (i : Nat) (hi : i < st.length) (b : Bk) : encS (st.set i b) = encS (st.take i) ++ encB b ++ encS (st.drop (i + 1)) := by
  rw [encS_split (st.set i b) i (by simpa using hi)]
  have h1 : (st.set i b).take i = st.take i := by
    rw [List.take_set, List.set_eq_of_length_le (by simp; omega)]
  have h2 : (st.set i b).drop (i + 1) = st.drop (i + 1) := by
    rw [List.drop_set_of_lt (by omega)]
  rw [h1, h2]; simp
theorem encS_store (st : List Bk) (h : Ok64 st) (i : Nat) (hi : i < st.length) (x : List Value) (b : Bk) :
    (encS st ++ x).take (i * 65) ++ encB b ++ (encS st ++ x).drop (i * 65 + 65) = encS (st.set i b) ++ x := by
  have h1 := encS_take_len st h i hi
  have h2 := encB_len _ (h.get i hi)
  rw [encS_set st i hi b, encS_split st i hi]
  simp only [List.append_assoc]
  rw [← h1, List.take_left, ← List.drop_drop, List.drop_left, ← h2, List.drop_left]
theorem encS_set1 (st : List Bk) (h : Ok64 st) (i : Nat) (hi : i < st.length) (x : List Value) (t : Bool) :
    (encS st ++ x).set (i * 65) (.bool t) = encS (st.set i (t, st[i].2)) ++ x := by
  have h1 := encS_take_len st h i hi
  rw [encS_set st i hi, encS_split st i hi]
  simp only [List.append_assoc]
  rw [← h1, List.set_append_right _ _ (Nat.le_refl _)]
  simp [encB]

theorem encS_bytes (st : List Bk) (h : Ok64 st) (i : Nat) (hi : i < st.length) (x : List Value) (a n : Nat) (hn : a + n ≤ 64) : ((encS st ++ x).drop (i * 65 + 1 + a)).take n = ((st[i].2.drop a).take n).map u8 := by
  have h1 := encS_block st h i hi x
  have h2 : (((encS st ++ x).drop (i * 65)).take 65).drop (1 + a) = (st[i].2.drop a).map u8 := by
    rw [h1, Nat.add_comm, encB, List.drop_succ_cons, List.map_drop]
  have h3 := congrArg (List.take n) h2
  rw [List.drop_take, List.take_take, List.drop_drop] at h3
  rw [show min n (65 - (1 + a)) = n from by omega] at h3
  rw [List.map_take, ← h3, Nat.add_assoc]
def free (st : List Bk) : Nat := st.countP (fun b => !b.1)
theorem free_le (st : List Bk) : free st ≤ st.length := List.countP_le_length

/-- Block p is a Store of these blocks, whose cells stand in block s. -/
structure Sto (w : World) (p s c : Nat) (x : List Value) (st : List Bk) : Prop where
  ptr : blk w p = some [.slice (some ⟨s, 0, none⟩) st.length c, .int .i64 (free st)]
  row : blk w s = some (encS st ++ x)
  ne : p ≠ s
  ok : Ok64 st
  few : st.length ≤ 4096
  cap : st.length ≤ c

theorem Sto.keep0 {w w' : World} {p s c : Nat} {x : List Value} {st : List Bk} (h : Sto w p s c x st) (k : Keep [] w w') : Sto w' p s c x st :=
  ⟨(k.blk0 (blk_lt h.ptr)).trans h.ptr, (k.blk0 (blk_lt h.row)).trans h.row, h.ne, h.ok, h.few, h.cap⟩

theorem take1 (b : Bk) (w : World) : callP Try.prog 24 [.agg (encB b).toArray] w fun v w' => v = .bool (!b.1) ∧ w' = new w (encB b) 56 := by
  refine fn_ok c24_ok rfl ?_
  simp (maxSteps := 1000000) (disch := (first | omega | (simp only [sizeR] <;> omega))) only [↓codeR, valR, memR, Nat.reduceEqDiff, Nat.reduceAdd, Nat.reduceSub, Nat.reduceMul, Int.reduceNeg, Nat.reduceLT, Int.reduceToNat, Nat.reduceLeDiff, c24, encB]

/-- The first free block's index, -1: there is none. -/
def idxOf (st : List Bk) : Int := match st.findIdx? (fun b => !b.1) with | some i => i | none => -1
theorem idxOf_some (st : List Bk) (k : Nat) (hk : k < st.length) (h1 : ∀ j (hj : j < k), (st[j]'(by omega)).1 = true) (h2 : st[k].1 = false) : idxOf st = k := by
  have : st.findIdx? (fun b => !b.1) = some k := by
    rw [List.findIdx?_eq_some_iff_getElem]
    exact ⟨hk, by simp [h2], fun j hj => by simp [h1 j hj]⟩
  simp [idxOf, this]
theorem idxOf_none (st : List Bk) (h1 : ∀ j (hj : j < st.length), st[j].1 = true) : idxOf st = -1 := by
  have : st.findIdx? (fun b => !b.1) = none := by
    rw [List.findIdx?_eq_none_iff]
    intro b hb
    obtain ⟨j, hj, rfl⟩ := List.getElem_of_mem hb
    simp [h1 j hj]
  simp [idxOf, this]

theorem idx_any (st : List Bk) (s c : Nat) (x : List Value) (w : World) (hb : blk w s = some (encS st ++ x)) (ho : Ok64 st) (hn : st.length ≤ 4096) :
    callP Try.prog 23 [.slice (some ⟨s, 0, none⟩) st.length c, .func (.func 24) #[] #[]] w fun v w' => v = .int .i64 (idxOf st) ∧ Keep [] w w' := by
  refine fn_ok c23_ok rfl ?_
  simp (maxSteps := 1000000) (disch := (first | omega | (simp only [sizeR] <;> omega))) only [↓codeR, valR, memR, Nat.reduceEqDiff, Nat.reduceAdd, Nat.reduceSub, Nat.reduceMul, Int.reduceNeg, Nat.reduceLT, Int.reduceToNat, Nat.reduceLeDiff, c23]
  refine vc_loop [(4, 5), (8, 18)] (fun ρ wr => ∃ k : Nat, k ≤ st.length ∧ ρ 8 = .int .i64 k ∧ (∀ j (hj : j < k) (hj' : j < st.length), st[j].1 = true) ∧ blk wr s = some (encS st ++ x) ∧ Keep [] w wr) (fun ρ _ => match ρ 8 with | .int _ i => st.length - i.toNat | _ => 0) rfl ?_ ?_
  · exact ⟨0, Nat.zero_le _, rfl, fun j hj => by omega, hb, Keep.refl _ _⟩
  · rintro ρ' w' ⟨k, hk, h8, hall, hb', hkp⟩
    replace h8 : ρ' 8 = .int .i64 k := h8
    have hlt' := blk_lt hb'
    by_cases hlt : k < st.length
    · have hl := encS_len st ho
      simp (maxSteps := 1000000) (disch := (first | omega | (simp only [sizeR] <;> omega))) only [↓codeR, valR, memR, Nat.reduceEqDiff, Nat.reduceAdd, Nat.reduceSub, Nat.reduceMul, Int.reduceNeg, Nat.reduceLT, Int.reduceToNat, Nat.reduceLeDiff, h8, ldNB hb' 65 (k * 65) (by simp [hl]; omega), encS_block st ho k hlt, go_callv (h := k24_ok)]
      refine call_by (take1 st[k] w') ?_
      rintro _ _ ⟨rfl, rfl⟩
      simp (maxSteps := 1000000) (disch := (first | omega | (simp only [sizeR] <;> omega))) only [↓codeR, valR, memR, Nat.reduceEqDiff, Nat.reduceAdd, Nat.reduceSub, Nat.reduceMul, Int.reduceNeg, Nat.reduceLT, Int.reduceToNat, Nat.reduceLeDiff]
      refine cond_b (fun ht => ?_) (fun ht => ?_)
      · simp (maxSteps := 1000000) (disch := (first | omega | (simp only [sizeR] <;> omega))) only [↓codeR, valR, memR, Nat.reduceEqDiff, Nat.reduceAdd, Nat.reduceSub, Nat.reduceMul, Int.reduceNeg, Nat.reduceLT, Int.reduceToNat, Nat.reduceLeDiff, h8, idxOf_some st k hlt (fun j hj => hall j hj (by omega)) (by simpa using ht)]
        (repeat (first | exact Keep.refl _ _ | assumption | refine Keep.new_ ?_ _ _ | refine Keep.put_ ?_ (by first | omega | simp) _ | refine Keep.drewN ?_ _ | refine Keep.alloc ?_ _ | (refine Keep.then ?_ (by assumption))))
      · simp (maxSteps := 1000000) (disch := (first | omega | (simp only [sizeR] <;> omega))) only [↓codeR, valR, memR, Nat.reduceEqDiff, Nat.reduceAdd, Nat.reduceSub, Nat.reduceMul, Int.reduceNeg, Nat.reduceLT, Int.reduceToNat, Nat.reduceLeDiff, h8]
        refine ⟨⟨k + 1, by omega, by simp, ?_, hb', by (repeat (first | exact Keep.refl _ _ | assumption | refine Keep.new_ ?_ _ _ | refine Keep.put_ ?_ (by first | omega | simp) _ | refine Keep.drewN ?_ _ | refine Keep.alloc ?_ _ | (refine Keep.then ?_ (by assumption))))⟩, by omega⟩
        intro j hj hj'
        by_cases hjk : j = k
        · subst hjk; simpa using ht
        · exact hall j (by omega) hj'
    · simp (maxSteps := 1000000) (disch := (first | omega | (simp only [sizeR] <;> omega))) only [↓codeR, valR, memR, Nat.reduceEqDiff, Nat.reduceAdd, Nat.reduceSub, Nat.reduceMul, Int.reduceNeg, Nat.reduceLT, Int.reduceToNat, Nat.reduceLeDiff, h8, idxOf_none st (fun j hj => hall j (by omega) hj)]
      (repeat (first | exact Keep.refl _ _ | assumption | refine Keep.new_ ?_ _ _ | refine Keep.put_ ?_ (by first | omega | simp) _ | refine Keep.drewN ?_ _ | refine Keep.alloc ?_ _ | (refine Keep.then ?_ (by assumption))))

/-- Is block b taken? -/
def tkn (st : List Bk) (b : Int) : Prop := ∃ i : Nat, b = i + 1 ∧ ∃ h : i < st.length, st[i].1 = true

theorem at_some {w : World} {p s c : Nat} {x : List Value} {st : List Bk} (h : Sto w p s c x st) (i : Nat) (hi : i < st.length) (ht : st[i].1 = true) :
    callP Try.prog 25 [.pointer (some ⟨p, 0, none⟩), .int .i64 (i + 1)] w fun v w' => v = .pointer (some ⟨s, i * 65, none⟩) ∧ w' = w := by
  have h1 := h.few
  have h2 := encS_at st h.ok i hi x
  rw [ht] at h2
  refine fn_ok c25_ok rfl ?_
  simp (maxSteps := 1000000) (disch := (first | omega | (simp only [sizeR] <;> omega))) only [↓codeR, valR, memR, Nat.reduceEqDiff, Nat.reduceAdd, Nat.reduceSub, Nat.reduceMul, Int.reduceNeg, Nat.reduceLT, Int.reduceToNat, Nat.reduceLeDiff, c25, cel h.ptr, cel h.row, Int.add_sub_cancel, h2]
theorem at_none {w : World} {p s c : Nat} {x : List Value} {st : List Bk} (h : Sto w p s c x st) (b : Int) (ht : ¬ tkn st b) :
    callP Try.prog 25 [.pointer (some ⟨p, 0, none⟩), .int .i64 b] w fun v w' => v = .pointer none ∧ w' = w := by
  have h1 := h.few
  refine fn_ok c25_ok rfl ?_
  by_cases hb : b < 1
  · simp (maxSteps := 1000000) (disch := (first | omega | (simp only [sizeR] <;> omega))) only [↓codeR, valR, memR, Nat.reduceEqDiff, Nat.reduceAdd, Nat.reduceSub, Nat.reduceMul, Int.reduceNeg, Nat.reduceLT, Int.reduceToNat, Nat.reduceLeDiff, c25]
  · by_cases hn : (st.length : Int) < b
    · simp (maxSteps := 1000000) (disch := (first | omega | (simp only [sizeR] <;> omega))) only [↓codeR, valR, memR, Nat.reduceEqDiff, Nat.reduceAdd, Nat.reduceSub, Nat.reduceMul, Int.reduceNeg, Nat.reduceLT, Int.reduceToNat, Nat.reduceLeDiff, c25, cel h.ptr]
    · obtain ⟨i, rfl⟩ : ∃ i : Nat, b = i + 1 := ⟨(b - 1).toNat, by omega⟩
      have hi : i < st.length := by omega
      have h2 := encS_at st h.ok i hi x
      have h3 : st[i].1 = false := by
        cases hc : st[i].1
        · rfl
        · exact absurd ⟨i, rfl, hi, hc⟩ ht
      rw [h3] at h2
      simp (maxSteps := 1000000) (disch := (first | omega | (simp only [sizeR] <;> omega))) only [↓codeR, valR, memR, Nat.reduceEqDiff, Nat.reduceAdd, Nat.reduceSub, Nat.reduceMul, Int.reduceNeg, Nat.reduceLT, Int.reduceToNat, Nat.reduceLeDiff, c25, cel h.ptr, cel h.row, Int.add_sub_cancel, h2]

def zero64 : List UInt8 := List.replicate 64 0
theorem free_set (st : List Bk) (i : Nat) (hi : i < st.length) (b : Bk) : free (st.set i b) + (if st[i].1 = false then 1 else 0) = free st + (if b.1 = false then 1 else 0) := by
  induction st generalizing i with
  | nil => simp at hi
  | cons a r ih =>
    cases i with
    | zero =>
      simp only [List.set_cons_zero, free, List.countP_cons, List.getElem_cons_zero]
      obtain ⟨a1, a2⟩ := a
      obtain ⟨b1, b2⟩ := b
      cases a1 <;> cases b1 <;> simp
    | succ i =>
      have := ih i (by simpa using hi)
      simp only [List.set_cons_succ, free, List.countP_cons, List.getElem_cons_succ] at *
      omega

/-- Take: the first free block is taken, all zero. -/
theorem take_some {w : World} {p s c : Nat} {x : List Value} {st : List Bk} (h : Sto w p s c x st) (i : Nat) (hi : i < st.length) (hidx : idxOf st = i) (hf : st[i].1 = false) :
    callP Try.prog 10 [.pointer (some ⟨p, 0, none⟩)] w fun v w' => v = .tuple #[.int .i64 (i + 1), .int .i64 0] ∧ Sto w' p s c x (st.set i (true, zero64)) ∧ Keep [p, s] w w' := by
  have h1 := h.few
  have hfr := free_set st i hi (true, zero64)
  have hfl := free_le st
  rw [hf] at hfr
  simp only [if_true, Bool.true_eq_false, if_false] at hfr
  have hp := h.ptr
  have hs := h.row
  have hpl := blk_lt hp
  have hsl := blk_lt hs
  have hne := h.ne
  refine fn_ok c10_ok rfl ?_
  simp (maxSteps := 1000000) (disch := (first | omega | (simp only [sizeR] <;> omega))) only [↓codeR, valR, memR, Nat.reduceEqDiff, Nat.reduceAdd, Nat.reduceSub, Nat.reduceMul, Int.reduceNeg, Nat.reduceLT, Int.reduceToNat, Nat.reduceLeDiff, c10, cel hp]
  refine call_by (idx_any st s c x w hs h.ok h.few) ?_
  rintro _ w1 ⟨rfl, hk⟩
  have hp1 := (hk.blk0 hpl).trans hp
  have hs1 := (hk.blk0 hsl).trans hs
  have hpl1 := blk_lt hp1
  have hsl1 := blk_lt hs1
  rw [hidx]
  have hl := encS_len st h.ok
  have hst : stV w1 65 (.pointer (some ⟨s, i * 65, none⟩)) (.agg (Value.bool true :: List.replicate 64 (Value.int .u8 0)).toArray) = some (put w1 s (encS (st.set i (true, zero64)) ++ x)) := by
    rw [st_agg 65 s (i * 65) _ (by simp) (by decide), hs1]
    have e : (Value.bool true :: List.replicate 64 (Value.int .u8 0)) = encB (true, zero64) := by
      simp only [encB, zero64, List.map_replicate]; rfl
    rw [e, Option.bind_some, if_pos (by simp [hl]; omega), encS_store st h.ok i hi x]
  simp (maxSteps := 1000000) (disch := (first | omega | (simp only [sizeR] <;> omega))) only [↓codeR, valR, memR, Nat.reduceEqDiff, Nat.reduceAdd, Nat.reduceSub, Nat.reduceMul, Int.reduceNeg, Nat.reduceLT, Int.reduceToNat, Nat.reduceLeDiff, cel hp1, hp1, hs1, hst]
  refine ⟨⟨?_, ?_, hne, h.ok.set i _ (by decide), by simpa using h1, by simpa using h.cap⟩, ?_⟩
  · have e : ((free st : Int) - 1) = ((free (st.set i (true, zero64)) : Nat) : Int) := by omega
    simp (maxSteps := 1000000) (disch := (first | omega | (simp only [sizeR] <;> omega))) only [↓codeR, valR, memR, Nat.reduceEqDiff, Nat.reduceAdd, Nat.reduceSub, Nat.reduceMul, Int.reduceNeg, Nat.reduceLT, Int.reduceToNat, Nat.reduceLeDiff, List.length_set, e]
  · simp (maxSteps := 1000000) (disch := (first | omega | (simp only [sizeR] <;> omega))) only [↓codeR, valR, memR, Nat.reduceEqDiff, Nat.reduceAdd, Nat.reduceSub, Nat.reduceMul, Int.reduceNeg, Nat.reduceLT, Int.reduceToNat, Nat.reduceLeDiff]
  · exact Keep.put_ (Keep.put_ (hk.wide _) (by simp) _) (by simp) _
end Go.Proofs.Ytfiknjogkpbgdaa
