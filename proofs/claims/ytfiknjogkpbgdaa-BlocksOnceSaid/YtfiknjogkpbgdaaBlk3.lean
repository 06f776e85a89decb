/- What the methods of blocks.Store do, part 3: New, Write, a nil store; the chapter's examples. Conditions: as each theorem says. -/
import Derived.Test.YtfiknjogkpbgdaaBlk2
namespace Go.Proofs.Ytfiknjogkpbgdaa
open E
set_option linter.unusedVariables false
set_option linter.unusedSimpArgs false
set_option maxHeartbeats 4000000

def fresh (n : Nat) : List Bk := List.replicate n (false, zero64)
theorem encS_fresh (n : Nat) : (List.replicate n (Value.bool false :: List.replicate 64 (Value.int .u8 0))).flatten = encS (fresh n) := by
  have e : (Value.bool false :: List.replicate 64 (Value.int .u8 0)) = encB (false, zero64) := by
    simp only [encB, zero64, List.map_replicate]; rfl
  rw [e]
  induction n with
  | zero => rfl
  | succ n ih => simp only [List.replicate_succ, List.flatten_cons, fresh, encS, List.flatMap_cons] at *; rw [ih]
theorem ok_fresh (n : Nat) : Ok64 (fresh n) := by
  intro b hb
  rw [List.eq_of_mem_replicate hb]; rfl
theorem free_fresh (n : Nat) : free (fresh n) = n := by
  simp [free, fresh, List.countP_replicate]

theorem new_some (n : Nat) (h1 : 1 ≤ n) (h2 : n ≤ 4096) (w : World) :
    callP Try.prog 9 [.int .i64 n] w fun v w' => v = .tuple #[.pointer (some ⟨size w + 1, 0, none⟩), .int .i64 0] ∧ Sto w' (size w + 1) (size w) n [] (fresh n) ∧ Keep [] w w' := by
  refine fn_ok c9_ok rfl ?_
  simp (maxSteps := 1000000) (disch := (first | omega | (simp only [sizeR] <;> omega))) only [↓codeR, valR, memR, Nat.reduceEqDiff, Nat.reduceAdd, Nat.reduceSub, Nat.reduceMul, Int.reduceNeg, Nat.reduceLT, Int.reduceToNat, Nat.reduceLeDiff, c9]
  refine mks_by (by omega) (by omega) (by omega) (by omega) (by simp) (by omega) ?_
  simp (maxSteps := 1000000) (disch := (first | omega | (simp only [sizeR] <;> omega))) only [↓codeR, valR, memR, Nat.reduceEqDiff, Nat.reduceAdd, Nat.reduceSub, Nat.reduceMul, Int.reduceNeg, Nat.reduceLT, Int.reduceToNat, Nat.reduceLeDiff, encS_fresh]
  refine ⟨⟨?_, ?_, by omega, ok_fresh n, by simpa [fresh] using h2, by simp [fresh]⟩, by (repeat (first | exact Keep.refl _ _ | assumption | refine Keep.new_ ?_ _ _ | refine Keep.put_ ?_ (by first | omega | simp) _ | refine Keep.drewN ?_ _ | refine Keep.alloc ?_ _ | (refine Keep.then ?_ (by assumption))))⟩
  · rw [show size w + 1 = size (new w (encS (fresh n)) 56) from (size_new _ _ _).symm, blk_new, free_fresh]
    simp [fresh]
  · simp (maxSteps := 1000000) (disch := (first | omega | (simp only [sizeR] <;> omega))) only [↓codeR, valR, memR, Nat.reduceEqDiff, Nat.reduceAdd, Nat.reduceSub, Nat.reduceMul, Int.reduceNeg, Nat.reduceLT, Int.reduceToNat, Nat.reduceLeDiff]
theorem new_arg (n : Int) (h : n < 1 ∨ 4096 < n) (w : World) :
    callP Try.prog 9 [.int .i64 n] w fun v w' => v = .tuple #[.pointer none, .int .i64 1] ∧ w' = w := by
  refine fn_ok c9_ok rfl ?_
  by_cases h1 : n < 1
  · simp (maxSteps := 1000000) (disch := (first | omega | (simp only [sizeR] <;> omega))) only [↓codeR, valR, memR, Nat.reduceEqDiff, Nat.reduceAdd, Nat.reduceSub, Nat.reduceMul, Int.reduceNeg, Nat.reduceLT, Int.reduceToNat, Nat.reduceLeDiff, c9]
  · simp (maxSteps := 1000000) (disch := (first | omega | (simp only [sizeR] <;> omega))) only [↓codeR, valR, memR, Nat.reduceEqDiff, Nat.reduceAdd, Nat.reduceSub, Nat.reduceMul, Int.reduceNeg, Nat.reduceLT, Int.reduceToNat, Nat.reduceLeDiff, c9]

/-- s laid into b from a on. -/
def lays (b : List UInt8) (a : Nat) (s : List UInt8) : List UInt8 := b.take a ++ s ++ b.drop (a + s.length)
theorem lays_len (b : List UInt8) (a : Nat) (s : List UInt8) (h : a + s.length ≤ b.length) : (lays b a s).length = b.length := by
  simp [lays]; omega
theorem drop_add {α : Type} (A B : List α) (n : Nat) : (A ++ B).drop (A.length + n) = B.drop n := by
  rw [← List.drop_drop, List.drop_left]
theorem encS_write (st : List Bk) (h : Ok64 st) (i : Nat) (hi : i < st.length) (x : List Value) (a : Nat) (s : List UInt8) (hs : a + s.length ≤ 64) :
    (encS st ++ x).take (i * 65 + 1 + a) ++ (s.map fun b => Value.int .u8 b.toNat) ++ (encS st ++ x).drop (i * 65 + 1 + a + s.length) = encS (st.set i (st[i].1, lays st[i].2 a s)) ++ x := by
  have h1 := encS_take_len st h i hi
  have h3 := h.get i hi
  rw [encS_set st i hi, encS_split st i hi]
  simp only [List.append_assoc]
  rw [show i * 65 + 1 + a = (encS (st.take i)).length + (1 + a) from by omega, List.take_append, List.take_of_length_le (by omega), show (encS (st.take i)).length + (1 + a) - (encS (st.take i)).length = 1 + a from by omega]
  rw [show (encS (st.take i)).length + (1 + a) + s.length = (encS (st.take i)).length + (1 + a + s.length) from by omega, drop_add]
  rw [List.take_append_of_le_length (by simp [encB, h3]; omega), List.drop_append_of_le_length (by simp [encB, h3]; omega)]
  simp only [encB, lays, List.map_append, List.append_assoc, Nat.add_comm 1 a, List.take_succ_cons, List.map_take, List.cons_append, List.append_cancel_left_eq, List.cons.injEq, true_and]
  rw [show a + 1 + s.length = (a + s.length) + 1 from by omega, List.drop_succ_cons, List.map_drop]
  rfl

theorem write_some {w : World} {p s c : Nat} {x : List Value} {st : List Bk} (h : Sto w p s c x st) (i : Nat) (hi : i < st.length) (ht : st[i].1 = true) (a : Nat) (t : List UInt8) (hn : a + t.length ≤ 64) :
    callP Try.prog 13 [.pointer (some ⟨p, 0, none⟩), .int .i64 (i + 1), .int .i64 a, .string (bs t)] w fun v w' => v = .int .i64 0 ∧ Sto w' p s c x (st.set i (true, lays st[i].2 a t)) ∧ Keep [p, s] w w' := by
  have hp := h.ptr
  have hs := h.row
  have hpl := blk_lt hp
  have hsl := blk_lt hs
  have hne := h.ne
  have hl := encS_len st h.ok
  have h64 := h.ok.get i hi
  have hfr := free_set st i hi (true, lays st[i].2 a t)
  rw [ht] at hfr
  simp only [Bool.true_eq_false, if_false, Nat.add_zero] at hfr
  have hpost : ∀ l, l = encS (st.set i (true, lays st[i].2 a t)) ++ x → Sto (put w s l) p s c x (st.set i (true, lays st[i].2 a t)) ∧ Keep [p, s] w (put w s l) := by
    rintro l rfl
    refine ⟨⟨?_, ?_, hne, h.ok.set i _ ?_, by simpa using h.few, by simpa using h.cap⟩, Keep.put_ (Keep.refl _ _) (by simp) _⟩
    · rw [blk_put_ne hne, hp, hfr, List.length_set]
    · exact blk_put hsl _
    · show (lays st[i].2 a t).length = 64
      rw [lays_len _ _ _ (by omega), h64]
  refine fn_ok c13_ok rfl ?_
  simp (maxSteps := 1000000) (disch := (first | omega | (simp only [sizeR] <;> omega))) only [↓codeR, valR, memR, Nat.reduceEqDiff, Nat.reduceAdd, Nat.reduceSub, Nat.reduceMul, Int.reduceNeg, Nat.reduceLT, Int.reduceToNat, Nat.reduceLeDiff, c13]
  refine call_by (at_some h i hi ht) ?_
  rintro _ _ ⟨rfl, rfl⟩
  simp (maxSteps := 1000000) (disch := (first | omega | (simp only [sizeR] <;> omega))) only [↓codeR, valR, memR, Nat.reduceEqDiff, Nat.reduceAdd, Nat.reduceSub, Nat.reduceMul, Int.reduceNeg, Nat.reduceLT, Int.reduceToNat, Nat.reduceLeDiff]
  have hw := encS_write st h.ok i hi x a t hn
  rw [ht] at hw
  by_cases ha : 64 = a
  · subst ha
    have : t = [] := List.eq_nil_of_length_eq_zero (by omega)
    subst this
    rw [if_pos rfl]
    have hw0 := encS_write st h.ok i hi x 0 [] (by simp)
    rw [ht] at hw0
    have e : lays st[i].2 0 [] = lays st[i].2 64 [] := by simp [lays]
    refine cpy_str Try.underlying37 (by kernel_rfl : szOf Try.prog 5 = some 1) hs (by simp) (by simp [hl]; omega) ?_
    rw [e] at hw0
    rw [show i * 65 + 1 + ([] : List UInt8).length = i * 65 + 1 + 0 + ([] : List UInt8).length from rfl, show (encS st ++ x).take (i * 65 + 1) = (encS st ++ x).take (i * 65 + 1 + 0) from rfl, hw0]
    simp (maxSteps := 1000000) (disch := (first | omega | (simp only [sizeR] <;> omega))) only [↓codeR, valR, memR, Nat.reduceEqDiff, Nat.reduceAdd, Nat.reduceSub, Nat.reduceMul, Int.reduceNeg, Nat.reduceLT, Int.reduceToNat, Nat.reduceLeDiff]
    exact hpost _ rfl
  · rw [if_neg ha]
    refine cpy_str Try.underlying37 (by kernel_rfl : szOf Try.prog 5 = some 1) hs (by omega) (by simp [hl]; omega) ?_
    rw [hw]
    simp (maxSteps := 1000000) (disch := (first | omega | (simp only [sizeR] <;> omega))) only [↓codeR, valR, memR, Nat.reduceEqDiff, Nat.reduceAdd, Nat.reduceSub, Nat.reduceMul, Int.reduceNeg, Nat.reduceLT, Int.reduceToNat, Nat.reduceLeDiff]
    exact hpost _ rfl
end Go.Proofs.Ytfiknjogkpbgdaa
