/- A word's number: Go's library called, the bases. Conditions: as each theorem says. -/
import Derived.Test.YtkbpbagjbjkpmaaGreatDoorNu
import Derived.Test.YtkbpbagjbjkpmaaGreatDoorSE
import Derived.Lib.IfaceEq
import Derived.Test.YtkbpbagjbjkpmaaGreatDoorS
namespace Go.Proofs.YtkbpbagjbjkpmaaGreatDoor
open E Go.Lib
set_option linter.unusedVariables false
set_option linter.unusedSimpArgs false
set_option maxHeartbeats 1000000
set_option maxRecDepth 20000

/-- A word's base, and its digits. -/
def numB (w : Str) : Int × Str :=
  if 2 < w.length ∧ (w.take 2 = [48, 120] ∨ w.take 2 = [48, 88]) then (16, w.drop 2)
  else if 1 < w.length ∧ w[0]?.getD 0 = 48 then (8, w) else (10, w)
theorem numP_B (w : Str) : numP w = if (numB w).2 = [] then none else valB (numB w).1.toNat (numB w).2 0 := by
  match w with
  | [] => rfl
  | [c] => simp [numB, numP]
  | c :: x :: t =>
    have eL : numP (c :: x :: t) = (if c = 48 then (if (x = 120 ∨ x = 88) ∧ t ≠ [] then valB 16 t 0 else valB 8 (x :: t) 0) else valB 10 (c :: x :: t) 0) := rfl
    rw [eL]
    by_cases h0 : c = 48
    · subst h0
      by_cases hx : (x = 120 ∨ x = 88) ∧ t ≠ []
      · have ht : 0 < t.length := List.length_pos_iff.2 hx.2
        have h1 : 2 < (48 :: x :: t).length ∧ ((48 :: x :: t).take 2 = [48, 120] ∨ (48 :: x :: t).take 2 = [48, 88]) := ⟨by simp; omega, by rcases hx.1 with rfl | rfl <;> simp⟩
        have eB : numB (48 :: x :: t) = (16, t) := by unfold numB; rw [if_pos h1]; rfl
        rw [eB, if_pos rfl, if_pos hx, if_neg hx.2]
        rfl
      · have h1 : ¬ (2 < (48 :: x :: t).length ∧ ((48 :: x :: t).take 2 = [48, 120] ∨ (48 :: x :: t).take 2 = [48, 88])) := fun h => by
          apply hx
          refine ⟨?_, fun e => by subst e; simp at h⟩
          rcases h.2 with h | h <;> simp at h
          · exact .inl h
          · exact .inr h
        have eB : numB (48 :: x :: t) = (8, 48 :: x :: t) := by unfold numB; rw [if_neg h1, if_pos ⟨by simp, by simp⟩]
        rw [eB, if_pos rfl, if_neg hx, if_neg (by simp)]
        simp [valB, digV]
    · have h1 : ¬ (2 < (c :: x :: t).length ∧ ((c :: x :: t).take 2 = [48, 120] ∨ (c :: x :: t).take 2 = [48, 88])) := fun h => by
        rcases h.2 with h | h <;> simp at h <;> exact h0 h.1
      have eB : numB (c :: x :: t) = (10, c :: x :: t) := by unfold numB; rw [if_neg h1, if_neg (fun h => h0 (by simpa using h.2))]
      rw [eB, if_neg h0, if_neg (by simp)]
      rfl
theorem numB_base (w : Str) : (numB w).1 = 8 ∨ (numB w).1 = 10 ∨ (numB w).1 = 16 := by
  unfold numB
  split
  · exact .inr (.inr rfl)
  split
  · exact .inl rfl
  · exact .inr (.inl rfl)
theorem dig_clean_all : (List.range 256).all (fun i => !decide (digV (UInt8.ofNat i) < 16) || (decide (i < 128) && !decide (UInt8.ofNat i ∈ n3))) = true := by decide +kernel
theorem dig_clean {c : UInt8} (h : digV c < 16) : c.toNat < 128 ∧ c ∉ n3 := by
  have h1 := List.all_eq_true.1 dig_clean_all c.toNat (List.mem_range.2 c.toNat_lt)
  simp only [UInt8.ofNat_toNat, h, decide_true, Bool.not_true, Bool.false_or, Bool.and_eq_true, decide_eq_true_eq, Bool.not_eq_true', decide_eq_false_iff_not] at h1
  exact h1
theorem valB_clean {b : Nat} (hb : b ≤ 16) : ∀ {s : Str} {a n : Nat}, valB b s a = some n → CleanN s
  | [], _, _, _ => fun c hc => by cases hc
  | c :: t, a, n, h => by
    simp only [valB] at h
    split at h
    · rename_i hd
      intro x hx
      rcases List.mem_cons.1 hx with rfl | hx
      · exact dig_clean (by omega)
      · exact valB_clean hb h x hx
    · cases h
/-- A number that is told, or not. -/
def NumR (w : Str) (v : Int) (ok : Bool) : Prop := (∃ n : Nat, numP w = some n ∧ n < 18446744073709551616 ∧ v = n ∧ ok = true) ∨ (ok = false ∧ (∀ n, numP w = some n → 18446744073709551616 ≤ n) ∧ 0 ≤ v ∧ v ≤ 18446744073709551615)
section
variable {σ σ' : AS} {X : Ce} {R : List Ck} {k : Value → AS → Prop} {s w : Str} {base : Int} {te1 te2 : Nat} {pe1 pe2 : Value}
theorem spu_c (hS : X 2 0 = some (.iface te1 pe1)) (hR : X 3 0 = some (.iface te2 pe2)) (hb : base = 8 ∨ base = 10 ∨ base = 16) (hs : s.length ≤ 1000000) (h : Hs σ X R)
    (hk : ∀ (v : Int) (e : Value) σ', ((∃ n : Nat, s ≠ [] ∧ valB base.toNat s 0 = some n ∧ n < 18446744073709551616 ∧ v = n ∧ e = .nilIface) ∨ ((∃ t p, e = .iface t p) ∧ (s = [] ∨ ∀ n, valB base.toNat s 0 = some n → 18446744073709551616 ≤ n) ∧ 0 ≤ v ∧ v ≤ 18446744073709551615)) → Hs σ' X R → k (.tuple #[.int .u64 v, e]) σ') :
    kCall Tryz.prog 32 [.string (bs s), .int .i64 base, .int .i64 64] σ k := by
  refine f32 ?_
  (simp (maxSteps := 1000000) (dsimp := false) (disch := (first | omega | (simp only [okR]; done) | (simp only [sizeR] <;> omega) | fail)) only [↓preR, postR, ↓w_join, Nat.reduceEqDiff, Nat.reduceAdd, Nat.reduceSub, Nat.reduceMul, Int.reduceNeg, Nat.reduceLT, Int.reduceToNat, Nat.reduceLeDiff, Nat.sub_zero, F32])
  refine pu_c hb hs h fun v e s1 hr h1 => ?_
  have hsz : (bs s).size = s.length := bs_size s
  rcases hr with ⟨n, h2, h3, h4, rfl, rfl⟩ | ⟨⟨x, hx, rfl⟩, h3, h4, h5⟩
  · (try simp (maxSteps := 1000000) (dsimp := false) (disch := (first | omega | (simp only [okR]; done) | (simp only [sizeR] <;> omega) | fail)) only [↓preR, postR, ↓w_stop, Nat.reduceEqDiff, Nat.reduceAdd, Nat.reduceSub, Nat.reduceMul, Int.reduceNeg, Nat.reduceLT, Int.reduceToNat, Nat.reduceLeDiff, Nat.sub_zero])
    refine join_now ?_
    (try simp (maxSteps := 1000000) (dsimp := false) (disch := (first | omega | (simp only [okR]; done) | (simp only [sizeR] <;> omega) | fail)) only [↓preR, postR, ↓w_stop, Nat.reduceEqDiff, Nat.reduceAdd, Nat.reduceSub, Nat.reduceMul, Int.reduceNeg, Nat.reduceLT, Int.reduceToNat, Nat.reduceLeDiff, Nat.sub_zero])
    exact hk _ _ _ (.inl ⟨n, h2, h3, h4, rfl, rfl⟩) h1
  · (try simp (maxSteps := 1000000) (dsimp := false) (disch := (first | omega | (simp only [okR]; done) | (simp only [sizeR] <;> omega) | fail)) only [↓preR, postR, ↓w_stop, Nat.reduceEqDiff, Nat.reduceAdd, Nat.reduceSub, Nat.reduceMul, Int.reduceNeg, Nat.reduceLT, Int.reduceToNat, Nat.reduceLeDiff, Nat.sub_zero])
    refine join_now ?_
    (try simp (maxSteps := 1000000) (dsimp := false) (disch := (first | omega | (simp only [okR]; done) | (simp only [sizeR] <;> omega) | fail)) only [↓preR, postR, ↓w_stop, Nat.reduceEqDiff, Nat.reduceAdd, Nat.reduceSub, Nat.reduceMul, Int.reduceNeg, Nat.reduceLT, Int.reduceToNat, Nat.reduceLeDiff, Nat.sub_zero])
    rcases hx with rfl | rfl
    · refine below_ex (Q := fun v => ∃ t p, v = .iface t p) (fun w0 hw => Calls.mono (Any.strconv_toError_range Tryz.laysC245 _ (bs s) base 64 (.iface te2 pe2) w0 (by omega) (hw.ld (h1.x _ _ _ hR)) (.inr ⟨_, _, rfl⟩)) fun e' w' ⟨N, q1, _, _, q4⟩ => ⟨⟨_, q1, _, _, rfl⟩, q4⟩) fun v2 j hv2 => ?_
      obtain ⟨t, p, rfl⟩ := hv2
      (try simp (maxSteps := 1000000) (dsimp := false) (disch := (first | omega | (simp only [okR]; done) | (simp only [sizeR] <;> omega) | fail)) only [↓preR, postR, ↓w_stop, Nat.reduceEqDiff, Nat.reduceAdd, Nat.reduceSub, Nat.reduceMul, Int.reduceNeg, Nat.reduceLT, Int.reduceToNat, Nat.reduceLeDiff, Nat.sub_zero])
      exact hk _ _ _ (.inr ⟨⟨_, _, rfl⟩, h3, h4, h5⟩) (h1.up j)
    · refine below_ex (Q := fun v => ∃ t p, v = .iface t p) (fun w0 hw => Calls.mono (Any.strconv_toError_syntax Tryz.laysC245 _ (bs s) base 64 (.iface te1 pe1) w0 (by omega) (hw.ld (h1.x _ _ _ hS)) (.inr ⟨_, _, rfl⟩)) fun e' w' ⟨N, q1, _, _, q4⟩ => ⟨⟨_, q1, _, _, rfl⟩, q4⟩) fun v2 j hv2 => ?_
      obtain ⟨t, p, rfl⟩ := hv2
      (try simp (maxSteps := 1000000) (dsimp := false) (disch := (first | omega | (simp only [okR]; done) | (simp only [sizeR] <;> omega) | fail)) only [↓preR, postR, ↓w_stop, Nat.reduceEqDiff, Nat.reduceAdd, Nat.reduceSub, Nat.reduceMul, Int.reduceNeg, Nat.reduceLT, Int.reduceToNat, Nat.reduceLeDiff, Nat.sub_zero])
      exact hk _ _ _ (.inr ⟨⟨_, _, rfl⟩, h3, h4, h5⟩) (h1.up j)
theorem num_c (hS : X 2 0 = some (.iface te1 pe1)) (hR : X 3 0 = some (.iface te2 pe2)) (hs : w.length ≤ 1000000) (h : Hs σ X R)
    (hk : ∀ (v : Int) (ok : Bool) σ', NumR w v ok → Hs σ' X R → k (.tuple #[.int .u64 v, .bool ok]) σ') : kCall Tryz.prog 16 [.string (bs w)] σ k := by
  refine f16 ?_
  (try simp (maxSteps := 1000000) (dsimp := false) (disch := (first | omega | (simp only [okR]; done) | (simp only [sizeR] <;> omega) | fail)) only [↓preR, postR, ↓w_stop, Nat.reduceEqDiff, Nat.reduceAdd, Nat.reduceSub, Nat.reduceMul, Int.reduceNeg, Nat.reduceLT, Int.reduceToNat, Nat.reduceLeDiff, Nat.sub_zero, F16])
  refine join_by fun J1 hJ1 => ?_
  have tail : J1 [.int .i64 (numB w).1, .string (bs (numB w).2)] σ := by
    refine hJ1 _ _ ?_
    clear hJ1
    have hP := numP_B w
    have hB := numB_base w
    have hd : (numB w).2.length ≤ 1000000 := by
      unfold numB
      split
      · simp; omega
      split <;> exact hs
    generalize (numB w).1 = base at hP hB
    generalize (numB w).2 = d at hP hd
    by_cases hd0 : d = []
    · subst hd0
      rw [if_pos rfl] at hP
      (try simp (maxSteps := 1000000) (dsimp := false) (disch := (first | omega | (simp only [okR]; done) | (simp only [sizeR] <;> omega) | fail)) only [↓preR, postR, ↓w_stop, Nat.reduceEqDiff, Nat.reduceAdd, Nat.reduceSub, Nat.reduceMul, Int.reduceNeg, Nat.reduceLT, Int.reduceToNat, Nat.reduceLeDiff, Nat.sub_zero])
      refine join_now ?_
      (try simp (maxSteps := 1000000) (dsimp := false) (disch := (first | omega | (simp only [okR]; done) | (simp only [sizeR] <;> omega) | fail)) only [↓preR, postR, ↓w_stop, Nat.reduceEqDiff, Nat.reduceAdd, Nat.reduceSub, Nat.reduceMul, Int.reduceNeg, Nat.reduceLT, Int.reduceToNat, Nat.reduceLeDiff, Nat.sub_zero])
      exact hk _ _ _ (.inr ⟨rfl, fun n hn => (by rw [hP] at hn; cases hn), by decide, by decide⟩) h
    rw [if_neg hd0] at hP
    (try simp (maxSteps := 1000000) (dsimp := false) (disch := (first | omega | (simp only [okR]; done) | (simp only [sizeR] <;> omega) | fail)) only [↓preR, postR, ↓w_stop, Nat.reduceEqDiff, Nat.reduceAdd, Nat.reduceSub, Nat.reduceMul, Int.reduceNeg, Nat.reduceLT, Int.reduceToNat, Nat.reduceLeDiff, Nat.sub_zero])
    refine join_by fun J2 hJ2 => ?_
    (try simp (maxSteps := 1000000) (dsimp := false) (disch := (first | omega | (simp only [okR]; done) | (simp only [sizeR] <;> omega) | fail)) only [↓preR, postR, ↓w_stop, Nat.reduceEqDiff, Nat.reduceAdd, Nat.reduceSub, Nat.reduceMul, Int.reduceNeg, Nat.reduceLT, Int.reduceToNat, Nat.reduceLeDiff, Nat.sub_zero, hd0])
    refine anyn_c hd h fun b s1 hb h1 => ?_
    cases b with
    | true =>
      (try simp (maxSteps := 1000000) (dsimp := false) (disch := (first | omega | (simp only [okR]; done) | (simp only [sizeR] <;> omega) | fail)) only [↓preR, postR, ↓w_stop, Nat.reduceEqDiff, Nat.reduceAdd, Nat.reduceSub, Nat.reduceMul, Int.reduceNeg, Nat.reduceLT, Int.reduceToNat, Nat.reduceLeDiff, Nat.sub_zero])
      refine hk _ _ _ (.inr ⟨rfl, fun n hn => ?_, by decide, by decide⟩) h1
      rw [hP] at hn
      have := hb (valB_clean (by omega) hn)
      cases this
    | false =>
      (try simp (maxSteps := 1000000) (dsimp := false) (disch := (first | omega | (simp only [okR]; done) | (simp only [sizeR] <;> omega) | fail)) only [↓preR, postR, ↓w_stop, Nat.reduceEqDiff, Nat.reduceAdd, Nat.reduceSub, Nat.reduceMul, Int.reduceNeg, Nat.reduceLT, Int.reduceToNat, Nat.reduceLeDiff, Nat.sub_zero])
      refine hJ2 _ _ ?_
      clear hJ2
      (try simp (maxSteps := 1000000) (dsimp := false) (disch := (first | omega | (simp only [okR]; done) | (simp only [sizeR] <;> omega) | fail)) only [↓preR, postR, ↓w_stop, Nat.reduceEqDiff, Nat.reduceAdd, Nat.reduceSub, Nat.reduceMul, Int.reduceNeg, Nat.reduceLT, Int.reduceToNat, Nat.reduceLeDiff, Nat.sub_zero])
      refine spu_c hS hR hB hd h1 fun v e s2 hr h2 => ?_
      rcases hr with ⟨n, q2, q3, q4, rfl, rfl⟩ | ⟨⟨t, p, rfl⟩, q3, q4, q5⟩
      · (try simp (maxSteps := 1000000) (dsimp := false) (disch := (first | omega | (simp only [okR]; done) | (simp only [sizeR] <;> omega) | fail)) only [↓preR, postR, ↓w_stop, Nat.reduceEqDiff, Nat.reduceAdd, Nat.reduceSub, Nat.reduceMul, Int.reduceNeg, Nat.reduceLT, Int.reduceToNat, Nat.reduceLeDiff, Nat.sub_zero])
        exact hk _ _ _ (.inl ⟨n, by rw [hP]; exact q3, q4, rfl, rfl⟩) h2
      · (try simp (maxSteps := 1000000) (dsimp := false) (disch := (first | omega | (simp only [okR]; done) | (simp only [sizeR] <;> omega) | fail)) only [↓preR, postR, ↓w_stop, Nat.reduceEqDiff, Nat.reduceAdd, Nat.reduceSub, Nat.reduceMul, Int.reduceNeg, Nat.reduceLT, Int.reduceToNat, Nat.reduceLeDiff, Nat.sub_zero])
        refine hk _ _ _ (.inr ⟨rfl, fun n hn => ?_, q4, q5⟩) h2
        rw [hP] at hn
        rcases q3 with q3 | q3
        · exact absurd q3 hd0
        · exact q3 n hn
  clear hJ1
  unfold numB at tail
  have hdr : List.take (w.length - 2) (w.drop 2) = w.drop 2 := List.take_of_length_le (by simp)
  by_cases l2 : 2 < w.length
  · have l2' : 2 < (w.length : Int) := by omega
    have l1' : 1 < (w.length : Int) := by omega
    by_cases p1 : w.take 2 = [48, 120]
    · rw [if_pos ⟨l2, .inl p1⟩] at tail
      (try simp (maxSteps := 1000000) (dsimp := false) (disch := (first | omega | (simp only [okR]; done) | (simp only [sizeR] <;> omega) | fail)) only [↓preR, postR, ↓w_stop, Nat.reduceEqDiff, Nat.reduceAdd, Nat.reduceSub, Nat.reduceMul, Int.reduceNeg, Nat.reduceLT, Int.reduceToNat, Nat.reduceLeDiff, Nat.sub_zero, l2', p1, hdr])
      exact tail
    by_cases p2 : w.take 2 = [48, 88]
    · rw [if_pos ⟨l2, .inr p2⟩] at tail
      have hne : ¬ ([48, 88] : Str) = [48, 120] := by decide
      (try simp (maxSteps := 1000000) (dsimp := false) (disch := (first | omega | (simp only [okR]; done) | (simp only [sizeR] <;> omega) | fail)) only [↓preR, postR, ↓w_stop, Nat.reduceEqDiff, Nat.reduceAdd, Nat.reduceSub, Nat.reduceMul, Int.reduceNeg, Nat.reduceLT, Int.reduceToNat, Nat.reduceLeDiff, Nat.sub_zero, l2', p2, hne, hdr])
      exact tail
    rw [if_neg (fun h => h.2.elim p1 p2)] at tail
    by_cases f0 : w[0]?.getD 0 = 48
    · rw [if_pos ⟨by omega, f0⟩] at tail
      (try simp (maxSteps := 1000000) (dsimp := false) (disch := (first | omega | (simp only [okR]; done) | (simp only [sizeR] <;> omega) | fail)) only [↓preR, postR, ↓w_stop, Nat.reduceEqDiff, Nat.reduceAdd, Nat.reduceSub, Nat.reduceMul, Int.reduceNeg, Nat.reduceLT, Int.reduceToNat, Nat.reduceLeDiff, Nat.sub_zero, l2', l1', p1, p2, f0])
      exact tail
    · rw [if_neg (fun h => f0 h.2)] at tail
      have f1 : ¬ ((w[0]?.getD 0).toNat : Int) = 48 := fun e => f0 (UInt8.toNat_inj.1 (by show _ = 48; omega))
      (try simp (maxSteps := 1000000) (dsimp := false) (disch := (first | omega | (simp only [okR]; done) | (simp only [sizeR] <;> omega) | fail)) only [↓preR, postR, ↓w_stop, Nat.reduceEqDiff, Nat.reduceAdd, Nat.reduceSub, Nat.reduceMul, Int.reduceNeg, Nat.reduceLT, Int.reduceToNat, Nat.reduceLeDiff, Nat.sub_zero, l2', l1', p1, p2, f1])
      exact tail
  · have l2' : ¬ 2 < (w.length : Int) := by omega
    rw [if_neg (fun h => l2 h.1)] at tail
    by_cases l1 : 1 < w.length
    · have l1' : 1 < (w.length : Int) := by omega
      by_cases f0 : w[0]?.getD 0 = 48
      · rw [if_pos ⟨l1, f0⟩] at tail
        (try simp (maxSteps := 1000000) (dsimp := false) (disch := (first | omega | (simp only [okR]; done) | (simp only [sizeR] <;> omega) | fail)) only [↓preR, postR, ↓w_stop, Nat.reduceEqDiff, Nat.reduceAdd, Nat.reduceSub, Nat.reduceMul, Int.reduceNeg, Nat.reduceLT, Int.reduceToNat, Nat.reduceLeDiff, Nat.sub_zero, l2', l1', f0])
        exact tail
      · rw [if_neg (fun h => f0 h.2)] at tail
        have f1 : ¬ ((w[0]?.getD 0).toNat : Int) = 48 := fun e => f0 (UInt8.toNat_inj.1 (by show _ = 48; omega))
        (try simp (maxSteps := 1000000) (dsimp := false) (disch := (first | omega | (simp only [okR]; done) | (simp only [sizeR] <;> omega) | fail)) only [↓preR, postR, ↓w_stop, Nat.reduceEqDiff, Nat.reduceAdd, Nat.reduceSub, Nat.reduceMul, Int.reduceNeg, Nat.reduceLT, Int.reduceToNat, Nat.reduceLeDiff, Nat.sub_zero, l2', l1', f1])
        exact tail
    · have l1' : ¬ 1 < (w.length : Int) := by omega
      rw [if_neg (fun h => l1 h.1)] at tail
      (try simp (maxSteps := 1000000) (dsimp := false) (disch := (first | omega | (simp only [okR]; done) | (simp only [sizeR] <;> omega) | fail)) only [↓preR, postR, ↓w_stop, Nat.reduceEqDiff, Nat.reduceAdd, Nat.reduceSub, Nat.reduceMul, Int.reduceNeg, Nat.reduceLT, Int.reduceToNat, Nat.reduceLeDiff, Nat.sub_zero, l2', l1'])
      exact tail
end
end Go.Proofs.YtkbpbagjbjkpmaaGreatDoor

/- A variable's value, as the program has it. Conditions: as each theorem says. -/
namespace Go.Proofs.YtkbpbagjbjkpmaaGreatDoor
open E Go.Lib
set_option linter.unusedVariables false
set_option linter.unusedSimpArgs false
set_option maxHeartbeats 1000000
set_option maxRecDepth 20000

theorem trimS_len (s set : Str) : (trimS s set).length ≤ s.length := by
  unfold trimS trimLeftS trimRightS
  refine Nat.le_trans (List.length_reverse ▸ (List.dropWhile_sublist _).length_le) ?_
  have h := (List.dropWhile_sublist (fun x => set.contains x) (l := s.reverse)).length_le
  rw [List.length_reverse] at h
  first
    | exact h
    | (rw [List.length_reverse]; exact h)
section
variable {σ σ' : AS} {X : Ce} {R : List Ck} {k : Value → AS → Prop} {s w : Str} {base : Int} {te1 te2 : Nat} {pe1 pe2 : Value}
theorem trimb_c (hl : s.length ≤ maxLen) (hk : ∀ j, k (.string (bs (trimS s blk3))) (σ.up j)) : kCall Tryz.prog 15 [.string (bs s), .string (bs [32, 9, 10])] σ k :=
  below_by (fun w hw => by
    have h := Any.strings_Trim_laid Tryz.lays160 (by kernel_rfl) (bs s) (bs blk3) w (by unfold maxLen at hl; show s.toArray.size ≤ _; simp; omega) (by decide) (ascii_of_all (by decide))
    have e : (bs s).data.toList = s := by simp [bs]
    have e2 : (bs blk3).data.toList = blk3 := by simp [bs]
    rw [e, e2] at h
    exact h) hk
theorem tlb_c (hl : s.length ≤ maxLen) (hk : ∀ j, k (.string (bs (skipB s))) (σ.up j)) : kCall Tryz.prog 77 [.string (bs s), .string (bs [32, 9, 10])] σ k :=
  below_by (fun w hw => by
    have h := Any.strings_TrimLeft_laid Tryz.lays161 (by kernel_rfl) (bs s) (bs blk3) w (by decide) (ascii_of_all (by decide))
    have e : (bs s).data.toList = s := by simp [bs]
    have e2 : (bs blk3).data.toList = blk3 := by simp [bs]
    rw [e, e2] at h
    exact h) hk
theorem value_c (hS : X 2 0 = some (.iface te1 pe1)) (hR : X 3 0 = some (.iface te2 pe2)) (hs : s.length ≤ 1000000) (h : Hs σ X R)
    (hk : ∀ σ', Hs σ' X R → k (.tuple #[.int .i64 (valueP s).1, .int .i64 (valueP s).2]) σ') : kCall Tryz.prog 8 [.string (bs s)] σ k := by
  refine f8 ?_
  (try simp (maxSteps := 1000000) (dsimp := false) (disch := (first | omega | (simp only [okR]; done) | (simp only [sizeR] <;> omega) | fail)) only [↓preR, postR, ↓w_stop, Nat.reduceEqDiff, Nat.reduceAdd, Nat.reduceSub, Nat.reduceMul, Int.reduceNeg, Nat.reduceLT, Int.reduceToNat, Nat.reduceLeDiff, Nat.sub_zero, F8])
  refine trimb_c (by unfold maxLen; omega) fun j0 => ?_
  have h0 := h.up j0
  generalize σ.up j0 = s0 at h0 ⊢
  have hl := trimS_len s blk3
  unfold valueP at hk
  generalize trimS s blk3 = t at hk hl ⊢
  cases t with
  | nil =>
    (try simp (maxSteps := 1000000) (dsimp := false) (disch := (first | omega | (simp only [okR]; done) | (simp only [sizeR] <;> omega) | fail)) only [↓preR, postR, ↓w_stop, Nat.reduceEqDiff, Nat.reduceAdd, Nat.reduceSub, Nat.reduceMul, Int.reduceNeg, Nat.reduceLT, Int.reduceToNat, Nat.reduceLeDiff, Nat.sub_zero])
    refine join_now ?_
    (try simp (maxSteps := 1000000) (dsimp := false) (disch := (first | omega | (simp only [okR]; done) | (simp only [sizeR] <;> omega) | fail)) only [↓preR, postR, ↓w_stop, Nat.reduceEqDiff, Nat.reduceAdd, Nat.reduceSub, Nat.reduceMul, Int.reduceNeg, Nat.reduceLT, Int.reduceToNat, Nat.reduceLeDiff, Nat.sub_zero])
    exact hk _ h0
  | cons c t =>
    simp only at hk
    have hl' : t.length + 1 ≤ 1000000 := by simp at hl; omega
    (try simp (maxSteps := 1000000) (dsimp := false) (disch := (first | omega | (simp only [okR]; done) | (simp only [sizeR] <;> omega) | fail)) only [↓preR, postR, ↓w_stop, Nat.reduceEqDiff, Nat.reduceAdd, Nat.reduceSub, Nat.reduceMul, Int.reduceNeg, Nat.reduceLT, Int.reduceToNat, Nat.reduceLeDiff, Nat.sub_zero])
    refine join_now ?_
    have hne : ¬ (c :: t : Str) = [] := by simp
    (try simp (maxSteps := 1000000) (dsimp := false) (disch := (first | omega | (simp only [okR]; done) | (simp only [sizeR] <;> omega) | fail)) only [↓preR, postR, ↓w_stop, Nat.reduceEqDiff, Nat.reduceAdd, Nat.reduceSub, Nat.reduceMul, Int.reduceNeg, Nat.reduceLT, Int.reduceToNat, Nat.reduceLeDiff, Nat.sub_zero, hne])
    refine join_by fun J2 hJ2 => ?_
    have tail : ∀ (w sg : Str), w.length ≤ 1000000 → (sg = [45] ∨ ¬ sg = [45]) → (∀ σ', Hs σ' X R → k (.tuple #[.int .i64 (match numP w with | none => ((0, 10) : Int × Int) | some n => if sg = [45] then (if 9223372036854775808 < n then (0, 10) else (-(n : Int), 0)) else (if 9223372036854775808 ≤ n then (0, 10) else ((n : Int), 0))).1, .int .i64 (match numP w with | none => ((0, 10) : Int × Int) | some n => if sg = [45] then (if 9223372036854775808 < n then (0, 10) else (-(n : Int), 0)) else (if 9223372036854775808 ≤ n then (0, 10) else ((n : Int), 0))).2]) σ') → J2 [.string (bs w), .string (bs sg)] s0 := by
      intro w sg hw hsg hkk
      refine hJ2 _ _ ?_
      clear hJ2
      (try simp (maxSteps := 1000000) (dsimp := false) (disch := (first | omega | (simp only [okR]; done) | (simp only [sizeR] <;> omega) | fail)) only [↓preR, postR, ↓w_stop, Nat.reduceEqDiff, Nat.reduceAdd, Nat.reduceSub, Nat.reduceMul, Int.reduceNeg, Nat.reduceLT, Int.reduceToNat, Nat.reduceLeDiff, Nat.sub_zero])
      refine num_c hS hR hw h0 fun v ok s1 hr h1 => ?_
      have hkk := hkk _ h1
      rcases hr with ⟨n, q1, q2, rfl, rfl⟩ | ⟨rfl, q2, q3, q4⟩
      · rw [q1] at hkk
        simp only at hkk
        (try simp (maxSteps := 1000000) (dsimp := false) (disch := (first | omega | (simp only [okR]; done) | (simp only [sizeR] <;> omega) | fail)) only [↓preR, postR, ↓w_stop, Nat.reduceEqDiff, Nat.reduceAdd, Nat.reduceSub, Nat.reduceMul, Int.reduceNeg, Nat.reduceLT, Int.reduceToNat, Nat.reduceLeDiff, Nat.sub_zero])
        refine join_now ?_
        by_cases g1 : 9223372036854775808 < n
        · have g1' : 9223372036854775808 < (n : Int) := by omega
          rw [if_pos g1, if_pos (show 9223372036854775808 ≤ n by omega), ite_self] at hkk
          (try simp (maxSteps := 1000000) (dsimp := false) (disch := (first | omega | (simp only [okR]; done) | (simp only [sizeR] <;> omega) | fail)) only [↓preR, postR, ↓w_stop, Nat.reduceEqDiff, Nat.reduceAdd, Nat.reduceSub, Nat.reduceMul, Int.reduceNeg, Nat.reduceLT, Int.reduceToNat, Nat.reduceLeDiff, Nat.sub_zero, g1'])
          exact hkk
        have g1' : ¬ 9223372036854775808 < (n : Int) := by omega
        rw [if_neg g1] at hkk
        by_cases g2 : n = 9223372036854775808
        · subst g2
          rcases hsg with e | e
          · subst e
            rw [if_pos rfl] at hkk
            have w1 : IntKind.i64.wrap (0 - IntKind.i64.wrap ((9223372036854775808 : Nat) : Int)) = -9223372036854775808 := by decide +kernel
            (try simp (maxSteps := 1000000) (dsimp := false) (disch := (first | omega | (simp only [okR]; done) | (simp only [sizeR] <;> omega) | fail)) only [↓preR, postR, ↓w_stop, Nat.reduceEqDiff, Nat.reduceAdd, Nat.reduceSub, Nat.reduceMul, Int.reduceNeg, Nat.reduceLT, Int.reduceToNat, Nat.reduceLeDiff, Nat.sub_zero])
            rw [w1]
            exact hkk
          · rw [if_neg e, if_pos (Nat.le_refl _)] at hkk
            (try simp (maxSteps := 1000000) (dsimp := false) (disch := (first | omega | (simp only [okR]; done) | (simp only [sizeR] <;> omega) | fail)) only [↓preR, postR, ↓w_stop, Nat.reduceEqDiff, Nat.reduceAdd, Nat.reduceSub, Nat.reduceMul, Int.reduceNeg, Nat.reduceLT, Int.reduceToNat, Nat.reduceLeDiff, Nat.sub_zero, e])
            exact hkk
        have g2' : ¬ (n : Int) = 9223372036854775808 := by omega
        have w1 : IntKind.i64.wrap (n : Int) = (n : Int) := wrap64 _ (by omega) (by omega)
        have w2 : IntKind.i64.wrap (-(n : Int)) = -(n : Int) := wrap64 _ (by omega) (by omega)
        rcases hsg with e | e
        · subst e
          rw [if_pos rfl] at hkk
          have e0 : (0 : Int) - (n : Int) = -(n : Int) := by omega
          (try simp (maxSteps := 1000000) (dsimp := false) (disch := (first | omega | (simp only [okR]; done) | (simp only [sizeR] <;> omega) | fail)) only [↓preR, postR, ↓w_stop, Nat.reduceEqDiff, Nat.reduceAdd, Nat.reduceSub, Nat.reduceMul, Int.reduceNeg, Nat.reduceLT, Int.reduceToNat, Nat.reduceLeDiff, Nat.sub_zero, g1', g2', w1, w2])
          rw [e0]
          exact hkk
        · rw [if_neg e, if_neg (by omega)] at hkk
          (try simp (maxSteps := 1000000) (dsimp := false) (disch := (first | omega | (simp only [okR]; done) | (simp only [sizeR] <;> omega) | fail)) only [↓preR, postR, ↓w_stop, Nat.reduceEqDiff, Nat.reduceAdd, Nat.reduceSub, Nat.reduceMul, Int.reduceNeg, Nat.reduceLT, Int.reduceToNat, Nat.reduceLeDiff, Nat.sub_zero, g1', g2', e, w1])
          exact hkk
      · have hbad : k (.tuple #[.int .i64 0, .int .i64 10]) s1 := by
          cases hq : numP w with
          | none => rw [hq] at hkk; exact hkk
          | some n =>
            have := q2 n hq
            rw [hq] at hkk
            simp only [if_pos (show 9223372036854775808 < n by omega), if_pos (show 9223372036854775808 ≤ n by omega), ite_self] at hkk
            exact hkk
        (try simp (maxSteps := 1000000) (dsimp := false) (disch := (first | omega | (simp only [okR]; done) | (simp only [sizeR] <;> omega) | fail)) only [↓preR, postR, ↓w_stop, Nat.reduceEqDiff, Nat.reduceAdd, Nat.reduceSub, Nat.reduceMul, Int.reduceNeg, Nat.reduceLT, Int.reduceToNat, Nat.reduceLeDiff, Nat.sub_zero])
        refine join_now ?_
        (try simp (maxSteps := 1000000) (dsimp := false) (disch := (first | omega | (simp only [okR]; done) | (simp only [sizeR] <;> omega) | fail)) only [↓preR, postR, ↓w_stop, Nat.reduceEqDiff, Nat.reduceAdd, Nat.reduceSub, Nat.reduceMul, Int.reduceNeg, Nat.reduceLT, Int.reduceToNat, Nat.reduceLeDiff, Nat.sub_zero])
        exact hbad
    clear hJ2
    by_cases c43 : c = 43
    · have h43 : (c.toNat : Int) = 43 := by rw [c43]; rfl
      have et : List.take (t.length + 1 - 1) t = t := List.take_of_length_le (by omega)
      (try simp (maxSteps := 1000000) (dsimp := false) (disch := (first | omega | (simp only [okR]; done) | (simp only [sizeR] <;> omega) | fail)) only [↓preR, postR, ↓w_stop, Nat.reduceEqDiff, Nat.reduceAdd, Nat.reduceSub, Nat.reduceMul, Int.reduceNeg, Nat.reduceLT, Int.reduceToNat, Nat.reduceLeDiff, Nat.sub_zero, Option.getD_some, h43, et])
      refine tail t [c] (by omega) (.inr (by rw [c43]; decide)) ?_
      have e0 : (([43] : Str) = [45]) = False := by simp
      have e1 : ((43 : UInt8) = 45) = False := by simp
      subst c43
      simp only [true_or, if_true, if_false, e0, e1] at hk ⊢
      exact hk
    by_cases c45 : c = 45
    · have h45 : (c.toNat : Int) = 45 := by rw [c45]; rfl
      have h43 : ¬ (c.toNat : Int) = 43 := by omega
      have et : List.take (t.length + 1 - 1) t = t := List.take_of_length_le (by omega)
      (try simp (maxSteps := 1000000) (dsimp := false) (disch := (first | omega | (simp only [okR]; done) | (simp only [sizeR] <;> omega) | fail)) only [↓preR, postR, ↓w_stop, Nat.reduceEqDiff, Nat.reduceAdd, Nat.reduceSub, Nat.reduceMul, Int.reduceNeg, Nat.reduceLT, Int.reduceToNat, Nat.reduceLeDiff, Nat.sub_zero, Option.getD_some, h45, h43, et])
      refine tail t [c] (by omega) (.inl (by rw [c45])) ?_
      subst c45
      simp only [or_true, if_true] at hk ⊢
      exact hk
    have n43 : ¬ (c.toNat : Int) = 43 := fun e => c43 (UInt8.toNat_inj.1 (by show _ = 43; omega))
    have n45 : ¬ (c.toNat : Int) = 45 := fun e => c45 (UInt8.toNat_inj.1 (by show _ = 45; omega))
    (try simp (maxSteps := 1000000) (dsimp := false) (disch := (first | omega | (simp only [okR]; done) | (simp only [sizeR] <;> omega) | fail)) only [↓preR, postR, ↓w_stop, Nat.reduceEqDiff, Nat.reduceAdd, Nat.reduceSub, Nat.reduceMul, Int.reduceNeg, Nat.reduceLT, Int.reduceToNat, Nat.reduceLeDiff, Nat.sub_zero, Option.getD_some, n43, n45])
    refine tail (c :: t) [] (by simp only [List.length_cons]; omega) (.inr (by decide)) ?_
    have e0 : (([] : Str) = [45]) = False := by simp
    simp only [c43, c45, or_self, if_false, e0] at hk ⊢
    exact hk
end
end Go.Proofs.YtkbpbagjbjkpmaaGreatDoor
