/- Arithmetic, as the document's answer works it out: what stands here, what is asked, what operators do. Conditions: as each theorem says. -/
import Derived.Test.YtkbpbagjbjkpmaaGreatDoorNmR
import Derived.Test.YtkbpbagjbjkpmaaGreatDoorWm
import Derived.Test.YtkbpbagjbjkpmaaGreatDoorTxR
import Derived.Test.YtkbpbagjbjkpmaaGreatDoorWn
namespace Go.Proofs.YtkbpbagjbjkpmaaGreatDoor
open E Go.Lib
open Rp
set_option linter.unusedVariables false
set_option linter.unusedSimpArgs false
set_option maxHeartbeats 1000000
set_option maxRecDepth 20000

def blkB (c : UInt8) : Prop := c = 32 ∨ c = 9 ∨ c = 10
instance (c : UInt8) : Decidable (blkB c) := inferInstanceAs (Decidable (_ ∨ _))
theorem skip_cons (c : UInt8) (t : Str) : skipB (c :: t) = if blkB c then skipB t else c :: t := by
  unfold skipB trimLeftS
  rw [List.dropWhile_cons]
  by_cases h : blkB c
  · rw [if_pos h, if_pos]
    rcases h with rfl | rfl | rfl <;> decide
  · rw [if_neg h, if_neg]
    intro h2
    apply h
    have h3 : c ∈ blk3 := by simpa using h2
    simpa [blkB] using h3
/-- What is left of a text. -/
def Suf (S l : Str) : Prop := ∃ a, S = a ++ l
theorem Suf.refl (S : Str) : Suf S S := ⟨[], rfl⟩
theorem Suf.len {S l : Str} (h : Suf S l) : l.length ≤ S.length := by
  obtain ⟨a, rfl⟩ := h
  simp
theorem Suf.eq {S l : Str} (h : Suf S l) : S.drop (S.length - l.length) = l := by
  obtain ⟨a, rfl⟩ := h
  simp
theorem Suf.drop {S l : Str} (h : Suf S l) (n : Nat) : Suf S (l.drop n) := by
  obtain ⟨a, rfl⟩ := h
  exact ⟨a ++ l.take n, by rw [List.append_assoc, List.take_append_drop]⟩
theorem Suf.tail {S t : Str} {c : UInt8} (h : Suf S (c :: t)) : Suf S t := h.drop 1
theorem Suf.skip {S l : Str} (h : Suf S l) : Suf S (skipB l) := by
  induction l with
  | nil => exact h
  | cons c t ih =>
    rw [skip_cons]
    split
    · exact ih h.tail
    · exact h
theorem Suf.get {S l : Str} (h : Suf S l) (j : Nat) : S[S.length - l.length + j]? = l[j]? := by
  obtain ⟨a, rfl⟩ := h
  have : (a ++ l).length - l.length = a.length := by simp
  rw [this, List.getElem?_append_right (by omega)]
  congr 1
  omega
theorem Suf.at {S : Str} {n : Nat} (h : n ≤ S.length) : Suf S (S.drop n) := ⟨S.take n, (List.take_append_drop n S).symm⟩
abbrev posS (S l : Str) : Nat := S.length - l.length
abbrev woC (S : Str) (st : ASt) (b : Bool) (vv u : Value) : List Value := [.string (bs S), .int .i64 (posS S st.left), .int .i64 st.over, .bool b, .int .i64 st.fell, vv, u]
abbrev WoR (p : Nat) (S : Str) (vv u : Value) (st : ASt) (b : Bool) (R : List Ck) : List Ck := Cel p (woC S st b vv u) :: E.Own (α := Str × Str) u (setsT st) :: R
section
variable {σ σ' : AS} {X : Ce} {R : List Ck} {k : Value → AS → Prop} {s w S : Str} {p m : Nat} {vv u : Value} {st : ASt} {b : Bool} {c : UInt8}
theorem blank_c (hk : k (.bool (decide (blkB c))) σ) : kCall Tryz.prog 17 [.int .u8 c.toNat] σ k := by
  refine f17 ?_
  have e : ∀ d : UInt8, ((c.toNat : Int) = (d.toNat : Int)) = (c = d) := fun d => propext ⟨fun h => UInt8.toNat_inj.1 (by omega), fun h => by rw [h]⟩
  have e1 : ((c.toNat : Int) = 32) = (c = 32) := e 32
  have e2 : ((c.toNat : Int) = 9) = (c = 9) := e 9
  have e3 : ((c.toNat : Int) = 10) = (c = 10) := e 10
  by_cases h1 : c = 32
  · have e0 : decide (blkB c) = true := decide_eq_true (.inl h1)
    rw [e0] at hk
    have h1' := e1.symm ▸ h1
    (try simp (maxSteps := 1000000) (dsimp := false) (disch := (first | omega | (simp only [okR]; done) | (simp only [sizeR] <;> omega) | fail)) only [↓preR, postR, ↓w_stop, Nat.reduceEqDiff, Nat.reduceAdd, Nat.reduceSub, Nat.reduceMul, Int.reduceNeg, Nat.reduceLT, Int.reduceToNat, Nat.reduceLeDiff, Nat.sub_zero, F17, h1'])
    exact hk
  by_cases h2 : c = 9
  · have e0 : decide (blkB c) = true := decide_eq_true (.inr (.inl h2))
    rw [e0] at hk
    have h2' := e2.symm ▸ h2
    (try simp (maxSteps := 1000000) (dsimp := false) (disch := (first | omega | (simp only [okR]; done) | (simp only [sizeR] <;> omega) | fail)) only [↓preR, postR, ↓w_stop, Nat.reduceEqDiff, Nat.reduceAdd, Nat.reduceSub, Nat.reduceMul, Int.reduceNeg, Nat.reduceLT, Int.reduceToNat, Nat.reduceLeDiff, Nat.sub_zero, F17, h2'])
    exact hk
  have h1' : ¬ (c.toNat : Int) = 32 := e1.symm ▸ h1
  have h2' : ¬ (c.toNat : Int) = 9 := e2.symm ▸ h2
  have e4 : decide (blkB c) = decide (c = 10) := by simp [blkB, h1, h2]
  rw [e4] at hk
  (try simp (maxSteps := 1000000) (dsimp := false) (disch := (first | omega | (simp only [okR]; done) | (simp only [sizeR] <;> omega) | fail)) only [↓preR, postR, ↓w_stop, Nat.reduceEqDiff, Nat.reduceAdd, Nat.reduceSub, Nat.reduceMul, Int.reduceNeg, Nat.reduceLT, Int.reduceToNat, Nat.reduceLeDiff, Nat.sub_zero, F17, h1', h2', e3])
  exact hk
theorem truth_c {b : Bool} (hk : k (.int .i64 (truthI b)) σ) : kCall Tryz.prog 89 [.bool b] σ k := by
  refine f89 ?_
  cases b with
  | true => (try simp (maxSteps := 1000000) (dsimp := false) (disch := (first | omega | (simp only [okR]; done) | (simp only [sizeR] <;> omega) | fail)) only [↓preR, postR, ↓w_stop, Nat.reduceEqDiff, Nat.reduceAdd, Nat.reduceSub, Nat.reduceMul, Int.reduceNeg, Nat.reduceLT, Int.reduceToNat, Nat.reduceLeDiff, Nat.sub_zero, F89]); refine join_now ?_; (try simp (maxSteps := 1000000) (dsimp := false) (disch := (first | omega | (simp only [okR]; done) | (simp only [sizeR] <;> omega) | fail)) only [↓preR, postR, ↓w_stop, Nat.reduceEqDiff, Nat.reduceAdd, Nat.reduceSub, Nat.reduceMul, Int.reduceNeg, Nat.reduceLT, Int.reduceToNat, Nat.reduceLeDiff, Nat.sub_zero]); exact hk
  | false => (try simp (maxSteps := 1000000) (dsimp := false) (disch := (first | omega | (simp only [okR]; done) | (simp only [sizeR] <;> omega) | fail)) only [↓preR, postR, ↓w_stop, Nat.reduceEqDiff, Nat.reduceAdd, Nat.reduceSub, Nat.reduceMul, Int.reduceNeg, Nat.reduceLT, Int.reduceToNat, Nat.reduceLeDiff, Nat.sub_zero, F89]); refine join_now ?_; (try simp (maxSteps := 1000000) (dsimp := false) (disch := (first | omega | (simp only [okR]; done) | (simp only [sizeR] <;> omega) | fail)) only [↓preR, postR, ↓w_stop, Nat.reduceEqDiff, Nat.reduceAdd, Nat.reduceSub, Nat.reduceMul, Int.reduceNeg, Nat.reduceLT, Int.reduceToNat, Nat.reduceLeDiff, Nat.sub_zero]); exact hk
theorem rlive_c (h : Hs σ X (WoR p S vv u st b R)) (hk : k (.bool (st.live && !b)) σ) : kCall Tryz.prog 66 [pvw p] σ k := by
  refine f66 ?_
  unfold ASt.live at hk
  by_cases h1 : st.over = 0
  · have h1' : (st.over : Int) = 0 := by omega
    rw [decide_eq_true h1, Bool.true_and] at hk
    cases b with
    | true =>
      (simp (maxSteps := 1000000) (dsimp := false) (disch := (first | omega | (simp only [okR]; done) | (simp only [sizeR] <;> omega) | fail)) only [↓preR, postR, ↓w_join, Nat.reduceEqDiff, Nat.reduceAdd, Nat.reduceSub, Nat.reduceMul, Int.reduceNeg, Nat.reduceLT, Int.reduceToNat, Nat.reduceLeDiff, Nat.sub_zero, F66, h.obj, h1'])
      simpa using hk
    | false =>
      (simp (maxSteps := 1000000) (dsimp := false) (disch := (first | omega | (simp only [okR]; done) | (simp only [sizeR] <;> omega) | fail)) only [↓preR, postR, ↓w_join, Nat.reduceEqDiff, Nat.reduceAdd, Nat.reduceSub, Nat.reduceMul, Int.reduceNeg, Nat.reduceLT, Int.reduceToNat, Nat.reduceLeDiff, Nat.sub_zero, F66, h.obj, h1'])
      simpa using hk
  · have h1' : ¬ (st.over : Int) = 0 := by omega
    rw [decide_eq_false h1, Bool.false_and, Bool.false_and] at hk
    (simp (maxSteps := 1000000) (dsimp := false) (disch := (first | omega | (simp only [okR]; done) | (simp only [sizeR] <;> omega) | fail)) only [↓preR, postR, ↓w_join, Nat.reduceEqDiff, Nat.reduceAdd, Nat.reduceSub, Nat.reduceMul, Int.reduceNeg, Nat.reduceLT, Int.reduceToNat, Nat.reduceLeDiff, Nat.sub_zero, F66, h.obj, h1'])
    exact hk
theorem sign_c (n : Nat) (hn : n ≤ 2000000) (h : Hs σ X (WoR p S vv u st b R)) (hS : S.length ≤ 1000000) (hk : k (.int .u8 ((S[n]?).getD 0).toNat) σ) : kCall Tryz.prog 63 [pvw p, .int .i64 n] σ k := by
  refine f63 ?_
  (try simp (maxSteps := 1000000) (dsimp := false) (disch := (first | omega | (simp only [okR]; done) | (simp only [sizeR] <;> omega) | fail)) only [↓preR, postR, ↓w_stop, Nat.reduceEqDiff, Nat.reduceAdd, Nat.reduceSub, Nat.reduceMul, Int.reduceNeg, Nat.reduceLT, Int.reduceToNat, Nat.reduceLeDiff, Nat.sub_zero, F63])
  refine join_now ?_
  by_cases hlt : n < S.length
  · have hlt' : (n : Int) < (S.length : Int) := by omega
    (try simp (maxSteps := 1000000) (dsimp := false) (disch := (first | omega | (simp only [okR]; done) | (simp only [sizeR] <;> omega) | fail)) only [↓preR, postR, ↓w_stop, Nat.reduceEqDiff, Nat.reduceAdd, Nat.reduceSub, Nat.reduceMul, Int.reduceNeg, Nat.reduceLT, Int.reduceToNat, Nat.reduceLeDiff, Nat.sub_zero, h.obj, hlt'])
    exact hk
  · have hlt' : ¬ (n : Int) < (S.length : Int) := by omega
    rw [List.getElem?_eq_none (by omega)] at hk
    (try simp (maxSteps := 1000000) (dsimp := false) (disch := (first | omega | (simp only [okR]; done) | (simp only [sizeR] <;> omega) | fail)) only [↓preR, postR, ↓w_stop, Nat.reduceEqDiff, Nat.reduceAdd, Nat.reduceSub, Nat.reduceMul, Int.reduceNeg, Nat.reduceLT, Int.reduceToNat, Nat.reduceLeDiff, Nat.sub_zero, h.obj, hlt'])
    exact hk
theorem rskip_c (hS : S.length ≤ 1000000) (hf : Suf S st.left) (h : Hs σ X (WoR p S vv u st b R)) (hk : ∀ w σ', Hs σ' X (WoR p S vv u st.skip b R) → k w σ') : kCall Tryz.prog 22 [pvw p] σ k := by
  refine f22 ?_
  (try simp (maxSteps := 1000000) (dsimp := false) (disch := (first | omega | (simp only [okR]; done) | (simp only [sizeR] <;> omega) | fail)) only [↓preR, postR, ↓w_stop, Nat.reduceEqDiff, Nat.reduceAdd, Nat.reduceSub, Nat.reduceMul, Int.reduceNeg, Nat.reduceLT, Int.reduceToNat, Nat.reduceLeDiff, Nat.sub_zero, F22])
  refine loop_inv (fun nn xs s => ∃ l, xs = [] ∧ Suf S l ∧ skipB l = skipB st.left ∧ Hs s X (WoR p S vv u (st.at l) b R) ∧ nn = l.length) _ ⟨st.left, rfl, hf, rfl, h, rfl⟩ ?_
  rintro _ _ s again ⟨l, rfl, hl, hsk, h1, rfl⟩ hag
  have hll := hl.len
  have o1 : s.m p = some (.cells [.string (bs S), .int .i64 (posS S l), .int .i64 st.over, .bool b, .int .i64 st.fell, vv, u]) := h1.obj
  (try simp (maxSteps := 1000000) (dsimp := false) (disch := (first | omega | (simp only [okR]; done) | (simp only [sizeR] <;> omega) | fail)) only [↓preR, postR, ↓w_stop, Nat.reduceEqDiff, Nat.reduceAdd, Nat.reduceSub, Nat.reduceMul, Int.reduceNeg, Nat.reduceLT, Int.reduceToNat, Nat.reduceLeDiff, Nat.sub_zero])
  refine join_by fun J hJ => ?_
  have out : skipB l = l → k undef s := by
    intro he
    have e : st.at l = st.skip := by
      show ASt.at st l = ASt.at st (skipB st.left)
      rw [← hsk, he]
    rw [e] at h1
    exact hk _ _ h1
  cases l with
  | nil =>
    have hp : ¬ ((posS S []) : Int) < (S.length : Int) := by unfold posS; simp
    (try simp (maxSteps := 1000000) (dsimp := false) (disch := (first | omega | (simp only [okR]; done) | (simp only [sizeR] <;> omega) | fail)) only [↓preR, postR, ↓w_stop, Nat.reduceEqDiff, Nat.reduceAdd, Nat.reduceSub, Nat.reduceMul, Int.reduceNeg, Nat.reduceLT, Int.reduceToNat, Nat.reduceLeDiff, Nat.sub_zero, o1, hp])
    exact out rfl
  | cons c t =>
    have hlen : (c :: t).length = t.length + 1 := rfl
    rw [hlen] at hll
    have hp : ((posS S (c :: t)) : Int) < (S.length : Int) := by unfold posS; rw [hlen]; omega
    have hg : S[posS S (c :: t)]?.getD 0 = c := by
      have := hl.get 0
      rw [Nat.add_zero] at this
      rw [this]; rfl
    (try simp (maxSteps := 1000000) (dsimp := false) (disch := (first | omega | (simp only [okR]; done) | (simp only [sizeR] <;> omega) | fail)) only [↓preR, postR, ↓w_stop, Nat.reduceEqDiff, Nat.reduceAdd, Nat.reduceSub, Nat.reduceMul, Int.reduceNeg, Nat.reduceLT, Int.reduceToNat, Nat.reduceLeDiff, Nat.sub_zero, o1, hp, hg])
    refine blank_c ?_
    by_cases hb : blkB c
    · have ep : ((posS S (c :: t)) : Int) + 1 = ((posS S t : Nat) : Int) := by unfold posS; rw [hlen]; omega
      have h2 : Hs (s.put p (.cells [.string (bs S), .int .i64 (posS S t), .int .i64 st.over, .bool b, .int .i64 st.fell, vv, u])) X (WoR p S vv u (st.at t) b R) := h1.put
      have hsz : ((posS S t : Nat) : Int) ≤ 1000000 := by unfold posS; omega
      (try simp (maxSteps := 1000000) (dsimp := false) (disch := (first | omega | (simp only [okR]; done) | (simp only [sizeR] <;> omega) | fail)) only [↓preR, postR, ↓w_stop, Nat.reduceEqDiff, Nat.reduceAdd, Nat.reduceSub, Nat.reduceMul, Int.reduceNeg, Nat.reduceLT, Int.reduceToNat, Nat.reduceLeDiff, Nat.sub_zero, hb])
      refine hJ _ _ ?_
      (try simp (maxSteps := 1000000) (dsimp := false) (disch := (first | omega | (simp only [okR]; done) | (simp only [sizeR] <;> omega) | fail)) only [↓preR, postR, ↓w_stop, Nat.reduceEqDiff, Nat.reduceAdd, Nat.reduceSub, Nat.reduceMul, Int.reduceNeg, Nat.reduceLT, Int.reduceToNat, Nat.reduceLeDiff, Nat.sub_zero, o1, ep])
      rw [skip_cons, if_pos hb] at hsk
      exact hag _ _ _ ⟨t, rfl, hl.tail, hsk, h2, rfl⟩ (by simp)
    · (try simp (maxSteps := 1000000) (dsimp := false) (disch := (first | omega | (simp only [okR]; done) | (simp only [sizeR] <;> omega) | fail)) only [↓preR, postR, ↓w_stop, Nat.reduceEqDiff, Nat.reduceAdd, Nat.reduceSub, Nat.reduceMul, Int.reduceNeg, Nat.reduceLT, Int.reduceToNat, Nat.reduceLeDiff, Nat.sub_zero, hb])
      exact out (by rw [skip_cons, if_neg hb])
end
end Go.Proofs.YtkbpbagjbjkpmaaGreatDoor

/- Arithmetic, as the document's answer works it out: digits, numbers, values. Conditions: as each theorem says. -/
namespace Go.Proofs.YtkbpbagjbjkpmaaGreatDoor
open E Go.Lib
open Rp
set_option linter.unusedVariables false
set_option linter.unusedSimpArgs false
set_option maxHeartbeats 1000000
set_option maxRecDepth 20000

theorem trimR_cons (c : UInt8) (t : Str) : trimRightS (t ++ [c]) blk3 = if blkB c then trimRightS t blk3 else t ++ [c] := by
  unfold trimRightS
  rw [List.reverse_append, List.reverse_singleton, List.singleton_append, List.dropWhile_cons]
  by_cases h : blkB c
  · rw [if_pos h, if_pos]
    rcases h with rfl | rfl | rfl <;> decide
  · rw [if_neg h, if_neg]
    · simp
    intro h2
    apply h
    have h3 : c ∈ blk3 := by simpa using h2
    simpa [blkB] using h3
theorem skip_app {l t : Str} : skipB (l ++ t) = if skipB l = [] then skipB t else skipB l ++ t := by
  induction l with
  | nil =>
    have e : skipB [] = [] := rfl
    rw [e, if_pos rfl]; rfl
  | cons c l ih =>
    rw [List.cons_append, skip_cons, skip_cons]
    by_cases h : blkB c
    · rw [if_pos h, if_pos h]
      exact ih
    · rw [if_neg h, if_neg h, if_neg (by simp)]
      rfl
theorem trim_comm (s : Str) : trimRightS (skipB s) blk3 = trimS s blk3 := by
  show _ = skipB (trimRightS s blk3)
  have gen : ∀ (n : Nat) (s : Str), s.length = n → trimRightS (skipB s) blk3 = skipB (trimRightS s blk3) := by
    intro n
    induction n with
    | zero =>
      intro s hs
      have : s = [] := List.eq_nil_of_length_eq_zero hs
      subst this
      rfl
    | succ n ih =>
      intro s hs
      rcases List.eq_nil_or_concat s with rfl | ⟨t, c, rfl⟩
      · cases hs
      · rw [List.concat_eq_append] at hs ⊢
        have ht := ih t (by simp at hs; exact hs)
        rw [trimR_cons, skip_app]
        by_cases h0 : skipB t = []
        · rw [if_pos h0]
          rw [h0] at ht
          by_cases hb : blkB c
          · rw [if_pos hb, ← ht, skip_cons, if_pos hb]
            rfl
          · rw [if_neg hb, skip_cons, if_neg hb, skip_app, if_pos h0, skip_cons, if_neg hb]
            have := trimR_cons c []
            rw [if_neg hb] at this
            exact this
        · rw [if_neg h0, trimR_cons]
          by_cases hb : blkB c
          · rw [if_pos hb, if_pos hb]; exact ht
          · rw [if_neg hb, if_neg hb, skip_app, if_neg h0]
  exact gen _ s rfl
/-- The number that is told, up to 2 to the 63. -/
def NumQ (w : Str) (v : Int) (ok : Bool) : Prop := (∃ n : Nat, numP w = some n ∧ n ≤ 9223372036854775808 ∧ v = n ∧ ok = true) ∨ (ok = false ∧ v = 0 ∧ ∀ n, numP w = some n → 9223372036854775808 < n)
section
variable {σ σ' : AS} {X : Ce} {R : List Ck} {k : Value → AS → Prop} {s w S : Str} {p m : Nat} {vv u : Value} {st : ASt} {b : Bool} {c : UInt8}
theorem digR_c (hk : k (.int .i64 (digV c)) σ) : kCall Tryz.prog 33 [.int .u8 c.toNat] σ k := by
  refine f33 ?_
  have hc := c.toNat_lt
  have tail : ∀ n : Int, n = (digV c : Nat) → k (.int .i64 n) σ := fun n hn => by rw [hn]; exact hk
  unfold digV at tail
  (try simp (maxSteps := 1000000) (dsimp := false) (disch := (first | omega | (simp only [okR]; done) | (simp only [sizeR] <;> omega) | fail)) only [↓preR, postR, ↓w_stop, Nat.reduceEqDiff, Nat.reduceAdd, Nat.reduceSub, Nat.reduceMul, Int.reduceNeg, Nat.reduceLT, Int.reduceToNat, Nat.reduceLeDiff, Nat.sub_zero, F33])
  refine join_by fun J1 hJ1 => ?_
  by_cases h1 : 48 ≤ c.toNat ∧ c.toNat ≤ 57
  · have h1a : 48 ≤ (c.toNat : Int) := by omega
    have h1b : (c.toNat : Int) ≤ 57 := by omega
    have e := wrapU8 ((c.toNat : Int) - 48) (by omega) (by omega)
    have e2 := wrap64 ((c.toNat : Int) - 48) (by omega) (by omega)
    (try simp (maxSteps := 1000000) (dsimp := false) (disch := (first | omega | (simp only [okR]; done) | (simp only [sizeR] <;> omega) | fail)) only [↓preR, postR, ↓w_stop, Nat.reduceEqDiff, Nat.reduceAdd, Nat.reduceSub, Nat.reduceMul, Int.reduceNeg, Nat.reduceLT, Int.reduceToNat, Nat.reduceLeDiff, Nat.sub_zero, h1a, h1b, ↓e, ↓e2])
    exact tail _ (by rw [if_pos h1]; omega)
  have n1 : J1 [] σ := by
    refine hJ1 _ _ ?_
    clear hJ1
    (try simp (maxSteps := 1000000) (dsimp := false) (disch := (first | omega | (simp only [okR]; done) | (simp only [sizeR] <;> omega) | fail)) only [↓preR, postR, ↓w_stop, Nat.reduceEqDiff, Nat.reduceAdd, Nat.reduceSub, Nat.reduceMul, Int.reduceNeg, Nat.reduceLT, Int.reduceToNat, Nat.reduceLeDiff, Nat.sub_zero])
    refine join_by fun J2 hJ2 => ?_
    by_cases h2 : 97 ≤ c.toNat ∧ c.toNat ≤ 102
    · have h1a : 97 ≤ (c.toNat : Int) := by omega
      have h1b : (c.toNat : Int) ≤ 102 := by omega
      have e := wrapU8 ((c.toNat : Int) - 97) (by omega) (by omega)
      have e2 := wrap64 ((c.toNat : Int) - 97) (by omega) (by omega)
      have e3 := wrap64 ((c.toNat : Int) - 97 + 10) (by omega) (by omega)
      (try simp (maxSteps := 1000000) (dsimp := false) (disch := (first | omega | (simp only [okR]; done) | (simp only [sizeR] <;> omega) | fail)) only [↓preR, postR, ↓w_stop, Nat.reduceEqDiff, Nat.reduceAdd, Nat.reduceSub, Nat.reduceMul, Int.reduceNeg, Nat.reduceLT, Int.reduceToNat, Nat.reduceLeDiff, Nat.sub_zero, h1a, h1b, ↓e, ↓e2, ↓e3])
      exact tail _ (by rw [if_neg h1, if_pos h2]; omega)
    have n2 : J2 [] σ := by
      refine hJ2 _ _ ?_
      clear hJ2
      (try simp (maxSteps := 1000000) (dsimp := false) (disch := (first | omega | (simp only [okR]; done) | (simp only [sizeR] <;> omega) | fail)) only [↓preR, postR, ↓w_stop, Nat.reduceEqDiff, Nat.reduceAdd, Nat.reduceSub, Nat.reduceMul, Int.reduceNeg, Nat.reduceLT, Int.reduceToNat, Nat.reduceLeDiff, Nat.sub_zero])
      refine join_by fun J3 hJ3 => ?_
      by_cases h3 : 65 ≤ c.toNat ∧ c.toNat ≤ 70
      · have h1a : 65 ≤ (c.toNat : Int) := by omega
        have h1b : (c.toNat : Int) ≤ 70 := by omega
        have e := wrapU8 ((c.toNat : Int) - 65) (by omega) (by omega)
        have e2 := wrap64 ((c.toNat : Int) - 65) (by omega) (by omega)
        have e3 := wrap64 ((c.toNat : Int) - 65 + 10) (by omega) (by omega)
        (try simp (maxSteps := 1000000) (dsimp := false) (disch := (first | omega | (simp only [okR]; done) | (simp only [sizeR] <;> omega) | fail)) only [↓preR, postR, ↓w_stop, Nat.reduceEqDiff, Nat.reduceAdd, Nat.reduceSub, Nat.reduceMul, Int.reduceNeg, Nat.reduceLT, Int.reduceToNat, Nat.reduceLeDiff, Nat.sub_zero, h1a, h1b, ↓e, ↓e2, ↓e3])
        exact tail _ (by rw [if_neg h1, if_neg h2, if_pos h3]; omega)
      have n3 : J3 [] σ := by
        refine hJ3 _ _ ?_
        (try simp (maxSteps := 1000000) (dsimp := false) (disch := (first | omega | (simp only [okR]; done) | (simp only [sizeR] <;> omega) | fail)) only [↓preR, postR, ↓w_stop, Nat.reduceEqDiff, Nat.reduceAdd, Nat.reduceSub, Nat.reduceMul, Int.reduceNeg, Nat.reduceLT, Int.reduceToNat, Nat.reduceLeDiff, Nat.sub_zero])
        exact tail _ (by rw [if_neg h1, if_neg h2, if_neg h3]; rfl)
      clear hJ3
      by_cases h3a : 65 ≤ (c.toNat : Int)
      · have h3b : ¬ (c.toNat : Int) ≤ 70 := by omega
        (try simp (maxSteps := 1000000) (dsimp := false) (disch := (first | omega | (simp only [okR]; done) | (simp only [sizeR] <;> omega) | fail)) only [↓preR, postR, ↓w_stop, Nat.reduceEqDiff, Nat.reduceAdd, Nat.reduceSub, Nat.reduceMul, Int.reduceNeg, Nat.reduceLT, Int.reduceToNat, Nat.reduceLeDiff, Nat.sub_zero, h3a, h3b])
        exact n3
      · (try simp (maxSteps := 1000000) (dsimp := false) (disch := (first | omega | (simp only [okR]; done) | (simp only [sizeR] <;> omega) | fail)) only [↓preR, postR, ↓w_stop, Nat.reduceEqDiff, Nat.reduceAdd, Nat.reduceSub, Nat.reduceMul, Int.reduceNeg, Nat.reduceLT, Int.reduceToNat, Nat.reduceLeDiff, Nat.sub_zero, h3a])
        exact n3
    clear hJ2
    by_cases h3a : 97 ≤ (c.toNat : Int)
    · have h3b : ¬ (c.toNat : Int) ≤ 102 := by omega
      (try simp (maxSteps := 1000000) (dsimp := false) (disch := (first | omega | (simp only [okR]; done) | (simp only [sizeR] <;> omega) | fail)) only [↓preR, postR, ↓w_stop, Nat.reduceEqDiff, Nat.reduceAdd, Nat.reduceSub, Nat.reduceMul, Int.reduceNeg, Nat.reduceLT, Int.reduceToNat, Nat.reduceLeDiff, Nat.sub_zero, h3a, h3b])
      exact n2
    · (try simp (maxSteps := 1000000) (dsimp := false) (disch := (first | omega | (simp only [okR]; done) | (simp only [sizeR] <;> omega) | fail)) only [↓preR, postR, ↓w_stop, Nat.reduceEqDiff, Nat.reduceAdd, Nat.reduceSub, Nat.reduceMul, Int.reduceNeg, Nat.reduceLT, Int.reduceToNat, Nat.reduceLeDiff, Nat.sub_zero, h3a])
      exact n2
  clear hJ1
  by_cases h3a : 48 ≤ (c.toNat : Int)
  · have h3b : ¬ (c.toNat : Int) ≤ 57 := by omega
    (try simp (maxSteps := 1000000) (dsimp := false) (disch := (first | omega | (simp only [okR]; done) | (simp only [sizeR] <;> omega) | fail)) only [↓preR, postR, ↓w_stop, Nat.reduceEqDiff, Nat.reduceAdd, Nat.reduceSub, Nat.reduceMul, Int.reduceNeg, Nat.reduceLT, Int.reduceToNat, Nat.reduceLeDiff, Nat.sub_zero, h3a, h3b])
    exact n1
  · (try simp (maxSteps := 1000000) (dsimp := false) (disch := (first | omega | (simp only [okR]; done) | (simp only [sizeR] <;> omega) | fail)) only [↓preR, postR, ↓w_stop, Nat.reduceEqDiff, Nat.reduceAdd, Nat.reduceSub, Nat.reduceMul, Int.reduceNeg, Nat.reduceLT, Int.reduceToNat, Nat.reduceLeDiff, Nat.sub_zero, h3a])
    exact n1
theorem rnum_c (hs : w.length ≤ 1000000) (hk : ∀ v ok, NumQ w v ok → k (.tuple #[.int .u64 v, .bool ok]) σ) : kCall Tryz.prog 18 [.string (bs w)] σ k := by
  refine f18 ?_
  (try simp (maxSteps := 1000000) (dsimp := false) (disch := (first | omega | (simp only [okR]; done) | (simp only [sizeR] <;> omega) | fail)) only [↓preR, postR, ↓w_stop, Nat.reduceEqDiff, Nat.reduceAdd, Nat.reduceSub, Nat.reduceMul, Int.reduceNeg, Nat.reduceLT, Int.reduceToNat, Nat.reduceLeDiff, Nat.sub_zero, F18])
  refine join_by fun J1 hJ1 => ?_
  have tail : ∀ (d : Str) (base : Nat), (base = 8 ∨ base = 10 ∨ base = 16) → d.length ≤ 1000000 → (numP w = if d = [] then none else valB base d 0) → J1 [.string (bs d), .int .i64 base] σ := by
    intro d base hb hd hP
    refine hJ1 _ _ ?_
    clear hJ1
    (try simp (maxSteps := 1000000) (dsimp := false) (disch := (first | omega | (simp only [okR]; done) | (simp only [sizeR] <;> omega) | fail)) only [↓preR, postR, ↓w_stop, Nat.reduceEqDiff, Nat.reduceAdd, Nat.reduceSub, Nat.reduceMul, Int.reduceNeg, Nat.reduceLT, Int.reduceToNat, Nat.reduceLeDiff, Nat.sub_zero])
    refine join_by fun J2 hJ2 => ?_
    by_cases hd0 : d = []
    · subst hd0
      rw [if_pos rfl] at hP
      (try simp (maxSteps := 1000000) (dsimp := false) (disch := (first | omega | (simp only [okR]; done) | (simp only [sizeR] <;> omega) | fail)) only [↓preR, postR, ↓w_stop, Nat.reduceEqDiff, Nat.reduceAdd, Nat.reduceSub, Nat.reduceMul, Int.reduceNeg, Nat.reduceLT, Int.reduceToNat, Nat.reduceLeDiff, Nat.sub_zero])
      exact hk _ _ (.inr ⟨rfl, rfl, fun n hn => by rw [hP] at hn; cases hn⟩)
    rw [if_neg hd0] at hP
    (try simp (maxSteps := 1000000) (dsimp := false) (disch := (first | omega | (simp only [okR]; done) | (simp only [sizeR] <;> omega) | fail)) only [↓preR, postR, ↓w_stop, Nat.reduceEqDiff, Nat.reduceAdd, Nat.reduceSub, Nat.reduceMul, Int.reduceNeg, Nat.reduceLT, Int.reduceToNat, Nat.reduceLeDiff, Nat.sub_zero, hd0])
    refine hJ2 _ _ ?_
    clear hJ2
    (try simp (maxSteps := 1000000) (dsimp := false) (disch := (first | omega | (simp only [okR]; done) | (simp only [sizeR] <;> omega) | fail)) only [↓preR, postR, ↓w_stop, Nat.reduceEqDiff, Nat.reduceAdd, Nat.reduceSub, Nat.reduceMul, Int.reduceNeg, Nat.reduceLT, Int.reduceToNat, Nat.reduceLeDiff, Nat.sub_zero])
    refine join_by fun J3 hJ3 => ?_
    refine loop_inv (fun nn xs s => ∃ (j u : Nat), xs = [.int .u64 u, .int .i64 j] ∧ σ = s ∧ j ≤ d.length ∧ u ≤ 9223372036854775808 ∧ numP w = valB base (d.drop j) u ∧ nn = d.length - j) _ ⟨0, 0, rfl, rfl, Nat.zero_le _, by omega, hP, rfl⟩ ?_
    rintro _ _ s again ⟨j, u, rfl, rfl, hj, hu, hv, rfl⟩ hag
    (try simp (maxSteps := 1000000) (dsimp := false) (disch := (first | omega | (simp only [okR]; done) | (simp only [sizeR] <;> omega) | fail)) only [↓preR, postR, ↓w_stop, Nat.reduceEqDiff, Nat.reduceAdd, Nat.reduceSub, Nat.reduceMul, Int.reduceNeg, Nat.reduceLT, Int.reduceToNat, Nat.reduceLeDiff, Nat.sub_zero])
    refine join_by fun J5 hJ5 => ?_
    by_cases hlt : j < d.length
    rotate_left
    · (try simp (maxSteps := 1000000) (dsimp := false) (disch := (first | omega | (simp only [okR]; done) | (simp only [sizeR] <;> omega) | fail)) only [↓preR, postR, ↓w_stop, Nat.reduceEqDiff, Nat.reduceAdd, Nat.reduceSub, Nat.reduceMul, Int.reduceNeg, Nat.reduceLT, Int.reduceToNat, Nat.reduceLeDiff, Nat.sub_zero])
      refine hJ3 _ _ ?_
      (try simp (maxSteps := 1000000) (dsimp := false) (disch := (first | omega | (simp only [okR]; done) | (simp only [sizeR] <;> omega) | fail)) only [↓preR, postR, ↓w_stop, Nat.reduceEqDiff, Nat.reduceAdd, Nat.reduceSub, Nat.reduceMul, Int.reduceNeg, Nat.reduceLT, Int.reduceToNat, Nat.reduceLeDiff, Nat.sub_zero])
      rw [List.drop_of_length_le (by omega)] at hv
      exact hk _ _ (.inl ⟨u, hv, hu, rfl, rfl⟩)
    have hg : (d[j]?.getD 0) = d[j] := by simp [hlt]
    (try simp (maxSteps := 1000000) (dsimp := false) (disch := (first | omega | (simp only [okR]; done) | (simp only [sizeR] <;> omega) | fail)) only [↓preR, postR, ↓w_stop, Nat.reduceEqDiff, Nat.reduceAdd, Nat.reduceSub, Nat.reduceMul, Int.reduceNeg, Nat.reduceLT, Int.reduceToNat, Nat.reduceLeDiff, Nat.sub_zero])
    refine hJ5 _ _ ?_
    clear hJ5 hJ3
    (try simp (maxSteps := 1000000) (dsimp := false) (disch := (first | omega | (simp only [okR]; done) | (simp only [sizeR] <;> omega) | fail)) only [↓preR, postR, ↓w_stop, Nat.reduceEqDiff, Nat.reduceAdd, Nat.reduceSub, Nat.reduceMul, Int.reduceNeg, Nat.reduceLT, Int.reduceToNat, Nat.reduceLeDiff, Nat.sub_zero, hg])
    refine join_by fun J6 hJ6 => ?_
    (try simp (maxSteps := 1000000) (dsimp := false) (disch := (first | omega | (simp only [okR]; done) | (simp only [sizeR] <;> omega) | fail)) only [↓preR, postR, ↓w_stop, Nat.reduceEqDiff, Nat.reduceAdd, Nat.reduceSub, Nat.reduceMul, Int.reduceNeg, Nat.reduceLT, Int.reduceToNat, Nat.reduceLeDiff, Nat.sub_zero, hg])
    refine digR_c ?_
    rw [List.drop_eq_getElem_cons hlt] at hv
    simp only [valB] at hv
    obtain ⟨q, hq⟩ : ∃ q, q = digV d[j] := ⟨_, rfl⟩
    rw [← hq] at hv ⊢
    (try simp (maxSteps := 1000000) (dsimp := false) (disch := (first | omega | (simp only [okR]; done) | (simp only [sizeR] <;> omega) | fail)) only [↓preR, postR, ↓w_stop, Nat.reduceEqDiff, Nat.reduceAdd, Nat.reduceSub, Nat.reduceMul, Int.reduceNeg, Nat.reduceLT, Int.reduceToNat, Nat.reduceLeDiff, Nat.sub_zero])
    refine join_by fun J7 hJ7 => ?_
    by_cases hqb : q < base
    rotate_left
    · rw [if_neg hqb] at hv
      have hqb' : (base : Int) ≤ (q : Int) := by omega
      (try simp (maxSteps := 1000000) (dsimp := false) (disch := (first | omega | (simp only [okR]; done) | (simp only [sizeR] <;> omega) | fail)) only [↓preR, postR, ↓w_stop, Nat.reduceEqDiff, Nat.reduceAdd, Nat.reduceSub, Nat.reduceMul, Int.reduceNeg, Nat.reduceLT, Int.reduceToNat, Nat.reduceLeDiff, Nat.sub_zero, hqb'])
      exact hk _ _ (.inr ⟨rfl, rfl, fun n hn => by rw [hv] at hn; cases hn⟩)
    rw [if_pos hqb] at hv
    have hqb' : ¬ (base : Int) ≤ (q : Int) := by omega
    have hbp : ¬ (base : Int) = 0 := by omega
    have w1 := wrapU64 (q : Int) (by omega) (by omega)
    have w2 := wrapU64 (base : Int) (by omega) (by omega)
    have w3 := wrapU64 (9223372036854775808 - (q : Int)) (by omega) (by omega)
    obtain ⟨z, hz⟩ : ∃ z : Nat, z = (9223372036854775808 - q) / base := ⟨_, rfl⟩
    have hzl : z ≤ 9223372036854775808 := by rw [hz]; exact Nat.le_trans (Nat.div_le_self _ _) (by omega)
    have w4 : IntKind.u64.wrap ((9223372036854775808 - (q : Int)).tdiv (base : Int)) = (z : Int) := by
      rw [Int.tdiv_eq_ediv_of_nonneg (by omega), show (9223372036854775808 - (q : Int)) = ((9223372036854775808 - q : Nat) : Int) by omega, ← Int.natCast_ediv, ← hz]
      exact wrapU64 _ (by omega) (by omega)
    by_cases hover : z < u
    · have hover' : (z : Int) < (u : Int) := by omega
      have hbig : 9223372036854775808 < u * base + q := by
        rw [hz] at hover
        have h9 := Nat.lt_mul_of_div_lt hover (by omega : 0 < base)
        rw [Nat.mul_comm] at h9
        first
          | omega
          | (rw [Nat.mul_comm] at h9; omega)
      (try simp (maxSteps := 1000000) (dsimp := false) (disch := (first | omega | (simp only [okR]; done) | (simp only [sizeR] <;> omega) | fail)) only [↓preR, postR, ↓w_stop, Nat.reduceEqDiff, Nat.reduceAdd, Nat.reduceSub, Nat.reduceMul, Int.reduceNeg, Nat.reduceLT, Int.reduceToNat, Nat.reduceLeDiff, Nat.sub_zero, hqb', hbp, ↓w1, ↓w2, ↓w3, ↓w4, hover'])
      exact hk _ _ (.inr ⟨rfl, rfl, fun n hn => by
        rw [hv] at hn
        have := valB_ge (by omega) hn
        omega⟩)
    · have hover' : ¬ (z : Int) < (u : Int) := by omega
      have hle : u * base + q ≤ 9223372036854775808 := by
        have h9 : u ≤ (9223372036854775808 - q) / base := by rw [← hz]; omega
        have h10 := Nat.mul_le_of_le_div base u _ h9
        omega
      have hmul : (u : Int) * (base : Int) = ((u * base : Nat) : Int) := by simp
      have hub : u * base ≤ 9223372036854775808 := by omega
      have w5 : IntKind.u64.wrap ((u : Int) * (base : Int)) = ((u * base : Nat) : Int) := by
        rw [hmul]; exact wrapU64 _ (by omega) (by omega)
      have w6 : IntKind.u64.wrap (((u * base : Nat) : Int) + (q : Int)) = ((u * base + q : Nat) : Int) := by
        rw [show ((u * base : Nat) : Int) + (q : Int) = ((u * base + q : Nat) : Int) by omega]
        exact wrapU64 _ (by omega) (by omega)
      (try simp (maxSteps := 1000000) (dsimp := false) (disch := (first | omega | (simp only [okR]; done) | (simp only [sizeR] <;> omega) | fail)) only [↓preR, postR, ↓w_stop, Nat.reduceEqDiff, Nat.reduceAdd, Nat.reduceSub, Nat.reduceMul, Int.reduceNeg, Nat.reduceLT, Int.reduceToNat, Nat.reduceLeDiff, Nat.sub_zero, hqb', hbp, ↓w1, ↓w2, ↓w3, ↓w4, hover'])
      refine hJ7 _ _ ?_
      (try simp (maxSteps := 1000000) (dsimp := false) (disch := (first | omega | (simp only [okR]; done) | (simp only [sizeR] <;> omega) | fail)) only [↓preR, postR, ↓w_stop, Nat.reduceEqDiff, Nat.reduceAdd, Nat.reduceSub, Nat.reduceMul, Int.reduceNeg, Nat.reduceLT, Int.reduceToNat, Nat.reduceLeDiff, Nat.sub_zero, ↓w1, ↓w2, ↓w5, ↓w6])
      refine hJ6 _ _ ?_
      (try simp (maxSteps := 1000000) (dsimp := false) (disch := (first | omega | (simp only [okR]; done) | (simp only [sizeR] <;> omega) | fail)) only [↓preR, postR, ↓w_stop, Nat.reduceEqDiff, Nat.reduceAdd, Nat.reduceSub, Nat.reduceMul, Int.reduceNeg, Nat.reduceLT, Int.reduceToNat, Nat.reduceLeDiff, Nat.sub_zero])
      exact hag _ _ _ ⟨j + 1, u * base + q, rfl, rfl, hlt, hle, hv, rfl⟩ (by omega)
  clear hJ1
  match w with
  | [] =>
    (try simp (maxSteps := 1000000) (dsimp := false) (disch := (first | omega | (simp only [okR]; done) | (simp only [sizeR] <;> omega) | fail)) only [↓preR, postR, ↓w_stop, Nat.reduceEqDiff, Nat.reduceAdd, Nat.reduceSub, Nat.reduceMul, Int.reduceNeg, Nat.reduceLT, Int.reduceToNat, Nat.reduceLeDiff, Nat.sub_zero])
    exact tail [] 10 (by omega) (by simp) rfl
  | [c] =>
    (try simp (maxSteps := 1000000) (dsimp := false) (disch := (first | omega | (simp only [okR]; done) | (simp only [sizeR] <;> omega) | fail)) only [↓preR, postR, ↓w_stop, Nat.reduceEqDiff, Nat.reduceAdd, Nat.reduceSub, Nat.reduceMul, Int.reduceNeg, Nat.reduceLT, Int.reduceToNat, Nat.reduceLeDiff, Nat.sub_zero])
    exact tail [c] 10 (by omega) (by simp) rfl
  | c :: x :: t =>
    have hl : (c :: x :: t).length = t.length + 2 := rfl
    rw [hl] at hs
    have h1 : 1 < ((c :: x :: t).length : Int) := by rw [hl]; omega
    have eL : numP (c :: x :: t) = (if c = 48 then (if (x = 120 ∨ x = 88) ∧ t ≠ [] then valB 16 t 0 else valB 8 (x :: t) 0) else valB 10 (c :: x :: t) 0) := rfl
    have g0 : ((c :: x :: t)[0]?.getD 0) = c := rfl
    by_cases h48 : c = 48
    rotate_left
    · have n48 : ¬ (c.toNat : Int) = 48 := fun e => h48 (UInt8.toNat_inj.1 (by show _ = 48; omega))
      (try simp (maxSteps := 1000000) (dsimp := false) (disch := (first | omega | (simp only [okR]; done) | (simp only [sizeR] <;> omega) | fail)) only [↓preR, postR, ↓w_stop, Nat.reduceEqDiff, Nat.reduceAdd, Nat.reduceSub, Nat.reduceMul, Int.reduceNeg, Nat.reduceLT, Int.reduceToNat, Nat.reduceLeDiff, Nat.sub_zero, h1, Option.getD_some, n48])
      exact tail _ 10 (by omega) (by rw [hl]; omega) (by rw [eL, if_neg h48, if_neg (by simp)])
    have n48 : (c.toNat : Int) = 48 := by rw [h48]; rfl
    have e1 : List.take (t.length + 2 - 1) (List.drop 1 (c :: x :: t)) = x :: t := by simp
    have e1' : List.take (t.length + 1) (x :: t) = x :: t := by simp
    have hl1 : (x :: t).length = t.length + 1 := rfl
    rw [if_pos h48] at eL
    have oct : ¬ ((x = 120 ∨ x = 88) ∧ t ≠ []) → J1 [.string (bs (x :: t)), .int .i64 ((8 : Nat) : Int)] σ := fun h => tail _ 8 (by omega) (by rw [hl1]; omega) (by rw [eL, if_neg h, if_neg (by simp)])
    have g1 : ((x :: t)[0]?.getD 0) = x := rfl
    cases t with
    | nil =>
      (try simp (maxSteps := 1000000) (dsimp := false) (disch := (first | omega | (simp only [okR]; done) | (simp only [sizeR] <;> omega) | fail)) only [↓preR, postR, ↓w_stop, Nat.reduceEqDiff, Nat.reduceAdd, Nat.reduceSub, Nat.reduceMul, Int.reduceNeg, Nat.reduceLT, Int.reduceToNat, Nat.reduceLeDiff, Nat.sub_zero, h1, Option.getD_some, n48])
      exact oct (fun h => h.2 rfl)
    | cons y t =>
      have h2 : 1 < ((x :: y :: t).length : Int) := by simp only [List.length_cons]; omega
      have sb1 : List.take (t.length + 1 + 1 + 1 - 1) (x :: y :: t) = x :: y :: t := List.take_of_length_le (by simp)
      have sb2 : List.take (t.length + 1 + 1 - 1) (y :: t) = y :: t := List.take_of_length_le (by simp)
      have ld : (y :: t).length ≤ 1000000 := by simp only [List.length_cons] at hs ⊢; omega
      by_cases hx1 : x = 120
      · have m1 : (x.toNat : Int) = 120 := by rw [hx1]; rfl
        have tl := tail (y :: t) 16 (by omega) ld (by rw [eL, if_pos ⟨.inl hx1, by simp⟩, if_neg (by simp)])
        (try simp (maxSteps := 1000000) (dsimp := false) (disch := (first | omega | (simp only [okR]; done) | (simp only [sizeR] <;> omega) | fail)) only [↓preR, postR, ↓w_stop, Nat.reduceEqDiff, Nat.reduceAdd, Nat.reduceSub, Nat.reduceMul, Int.reduceNeg, Nat.reduceLT, Int.reduceToNat, Nat.reduceLeDiff, Nat.sub_zero, h1, Option.getD_some, n48, sb1, sb2, List.getElem?_cons_zero, h2, m1])
        exact tl
      have m1 : ¬ (x.toNat : Int) = 120 := fun e => hx1 (UInt8.toNat_inj.1 (by show _ = 120; omega))
      by_cases hx2 : x = 88
      · have m2 : (x.toNat : Int) = 88 := by rw [hx2]; rfl
        have tl := tail (y :: t) 16 (by omega) ld (by rw [eL, if_pos ⟨.inr hx2, by simp⟩, if_neg (by simp)])
        (try simp (maxSteps := 1000000) (dsimp := false) (disch := (first | omega | (simp only [okR]; done) | (simp only [sizeR] <;> omega) | fail)) only [↓preR, postR, ↓w_stop, Nat.reduceEqDiff, Nat.reduceAdd, Nat.reduceSub, Nat.reduceMul, Int.reduceNeg, Nat.reduceLT, Int.reduceToNat, Nat.reduceLeDiff, Nat.sub_zero, h1, Option.getD_some, n48, sb1, sb2, List.getElem?_cons_zero, h2, m1, m2])
        exact tl
      have m2 : ¬ (x.toNat : Int) = 88 := fun e => hx2 (UInt8.toNat_inj.1 (by show _ = 88; omega))
      have tl := oct (fun h => h.1.elim hx1 hx2)
      (try simp (maxSteps := 1000000) (dsimp := false) (disch := (first | omega | (simp only [okR]; done) | (simp only [sizeR] <;> omega) | fail)) only [↓preR, postR, ↓w_stop, Nat.reduceEqDiff, Nat.reduceAdd, Nat.reduceSub, Nat.reduceMul, Int.reduceNeg, Nat.reduceLT, Int.reduceToNat, Nat.reduceLeDiff, Nat.sub_zero, h1, Option.getD_some, n48, sb1, sb2, List.getElem?_cons_zero, h2, m1, m2])
      exact tl
theorem rvalue_c (hs : s.length ≤ 1000000) (hk : k (.tuple #[.int .i64 (valueP s).1, .int .i64 (valueP s).2]) σ) : kCall Tryz.prog 9 [.string (bs s)] σ k := by
  refine f9 ?_
  (try simp (maxSteps := 1000000) (dsimp := false) (disch := (first | omega | (simp only [okR]; done) | (simp only [sizeR] <;> omega) | fail)) only [↓preR, postR, ↓w_stop, Nat.reduceEqDiff, Nat.reduceAdd, Nat.reduceSub, Nat.reduceMul, Int.reduceNeg, Nat.reduceLT, Int.reduceToNat, Nat.reduceLeDiff, Nat.sub_zero, F9])
  refine join_by fun J1 hJ1 => ?_
  have tail1 : J1 [.string (bs (skipB s))] σ := by
    refine hJ1 _ _ ?_
    clear hJ1
    (try simp (maxSteps := 1000000) (dsimp := false) (disch := (first | omega | (simp only [okR]; done) | (simp only [sizeR] <;> omega) | fail)) only [↓preR, postR, ↓w_stop, Nat.reduceEqDiff, Nat.reduceAdd, Nat.reduceSub, Nat.reduceMul, Int.reduceNeg, Nat.reduceLT, Int.reduceToNat, Nat.reduceLeDiff, Nat.sub_zero])
    refine join_by fun J2 hJ2 => ?_
    have tail2 : J2 [.string (bs (trimS s blk3))] σ := by
      refine hJ2 _ _ ?_
      clear hJ2
      have hl : (trimS s blk3).length ≤ 1000000 := by
        have h1 : (trimS s blk3).length ≤ (skipB s).length := by
          rw [← trim_comm]
          show (((skipB s).reverse.dropWhile _).reverse).length ≤ _
          rw [List.length_reverse]
          have := (List.dropWhile_sublist (l := (skipB s).reverse) (p := (blk3.contains ·))).length_le
          rw [List.length_reverse] at this
          exact this
        have := skip_len s
        omega
      unfold valueP at hk
      (try simp (maxSteps := 1000000) (dsimp := false) (disch := (first | omega | (simp only [okR]; done) | (simp only [sizeR] <;> omega) | fail)) only [↓preR, postR, ↓w_stop, Nat.reduceEqDiff, Nat.reduceAdd, Nat.reduceSub, Nat.reduceMul, Int.reduceNeg, Nat.reduceLT, Int.reduceToNat, Nat.reduceLeDiff, Nat.sub_zero])
      refine join_by fun J3 hJ3 => ?_
      cases hT : trimS s blk3 with
      | nil =>
        rw [hT] at hk
        (try simp (maxSteps := 1000000) (dsimp := false) (disch := (first | omega | (simp only [okR]; done) | (simp only [sizeR] <;> omega) | fail)) only [↓preR, postR, ↓w_stop, Nat.reduceEqDiff, Nat.reduceAdd, Nat.reduceSub, Nat.reduceMul, Int.reduceNeg, Nat.reduceLT, Int.reduceToNat, Nat.reduceLeDiff, Nat.sub_zero])
        exact hk
      | cons c t =>
        rw [hT] at hk hl hJ3
        have hl1 : (c :: t).length = t.length + 1 := rfl
        rw [hl1] at hl
        have hne : ¬ (c :: t : Str) = [] := by simp
        (try simp (maxSteps := 1000000) (dsimp := false) (disch := (first | omega | (simp only [okR]; done) | (simp only [sizeR] <;> omega) | fail)) only [↓preR, postR, ↓w_stop, Nat.reduceEqDiff, Nat.reduceAdd, Nat.reduceSub, Nat.reduceMul, Int.reduceNeg, Nat.reduceLT, Int.reduceToNat, Nat.reduceLeDiff, Nat.sub_zero, hne])
        refine hJ3 _ _ ?_
        clear hJ3
        have et : List.take (t.length + 1 - 1) t = t := List.take_of_length_le (by omega)
        simp only at hk
        (try simp (maxSteps := 1000000) (dsimp := false) (disch := (first | omega | (simp only [okR]; done) | (simp only [sizeR] <;> omega) | fail)) only [↓preR, postR, ↓w_stop, Nat.reduceEqDiff, Nat.reduceAdd, Nat.reduceSub, Nat.reduceMul, Int.reduceNeg, Nat.reduceLT, Int.reduceToNat, Nat.reduceLeDiff, Nat.sub_zero, Option.getD_some])
        refine join_by fun J4 hJ4 => ?_
        have tail4 : ∀ w : Str, w = (if c = 43 ∨ c = 45 then t else c :: t) → J4 [.string (bs w)] σ := by
          intro w hw
          refine hJ4 _ _ ?_
          clear hJ4
          rw [← hw] at hk
          have hwl : w.length ≤ 1000000 := by
            rw [hw]
            split
            · omega
            · rw [hl1]; exact hl
          (try simp (maxSteps := 1000000) (dsimp := false) (disch := (first | omega | (simp only [okR]; done) | (simp only [sizeR] <;> omega) | fail)) only [↓preR, postR, ↓w_stop, Nat.reduceEqDiff, Nat.reduceAdd, Nat.reduceSub, Nat.reduceMul, Int.reduceNeg, Nat.reduceLT, Int.reduceToNat, Nat.reduceLeDiff, Nat.sub_zero])
          refine rnum_c hwl fun v ok hq => ?_
          (try simp (maxSteps := 1000000) (dsimp := false) (disch := (first | omega | (simp only [okR]; done) | (simp only [sizeR] <;> omega) | fail)) only [↓preR, postR, ↓w_stop, Nat.reduceEqDiff, Nat.reduceAdd, Nat.reduceSub, Nat.reduceMul, Int.reduceNeg, Nat.reduceLT, Int.reduceToNat, Nat.reduceLeDiff, Nat.sub_zero])
          refine join_by fun J5 hJ5 => ?_
          rcases hq with ⟨n, q1, q2, rfl, rfl⟩ | ⟨rfl, rfl, q3⟩
          · rw [q1] at hk
            simp only at hk
            by_cases hm : c = 45
            · have m45 : (c.toNat : Int) = 45 := by rw [hm]; rfl
              rw [if_pos hm, if_neg (by omega)] at hk
              have w1 : IntKind.i64.wrap (IntKind.u64.wrap (0 - (n : Int))) = -(n : Int) := by
                rw [IntKind.wrap_i64, IntKind.wrap_u64]
                omega
              by_cases hn : (n : Int) = 9223372036854775808
              · (try simp (maxSteps := 1000000) (dsimp := false) (disch := (first | omega | (simp only [okR]; done) | (simp only [sizeR] <;> omega) | fail)) only [↓preR, postR, ↓w_stop, Nat.reduceEqDiff, Nat.reduceAdd, Nat.reduceSub, Nat.reduceMul, Int.reduceNeg, Nat.reduceLT, Int.reduceToNat, Nat.reduceLeDiff, Nat.sub_zero, m45, hn])
                refine hJ5 _ _ ?_
                (try simp (maxSteps := 1000000) (dsimp := false) (disch := (first | omega | (simp only [okR]; done) | (simp only [sizeR] <;> omega) | fail)) only [↓preR, postR, ↓w_stop, Nat.reduceEqDiff, Nat.reduceAdd, Nat.reduceSub, Nat.reduceMul, Int.reduceNeg, Nat.reduceLT, Int.reduceToNat, Nat.reduceLeDiff, Nat.sub_zero, m45])
                refine join_now ?_
                (try simp (maxSteps := 1000000) (dsimp := false) (disch := (first | omega | (simp only [okR]; done) | (simp only [sizeR] <;> omega) | fail)) only [↓preR, postR, ↓w_stop, Nat.reduceEqDiff, Nat.reduceAdd, Nat.reduceSub, Nat.reduceMul, Int.reduceNeg, Nat.reduceLT, Int.reduceToNat, Nat.reduceLeDiff, Nat.sub_zero, m45, ↓w1])
                exact hk
              · (try simp (maxSteps := 1000000) (dsimp := false) (disch := (first | omega | (simp only [okR]; done) | (simp only [sizeR] <;> omega) | fail)) only [↓preR, postR, ↓w_stop, Nat.reduceEqDiff, Nat.reduceAdd, Nat.reduceSub, Nat.reduceMul, Int.reduceNeg, Nat.reduceLT, Int.reduceToNat, Nat.reduceLeDiff, Nat.sub_zero, m45, hn])
                refine hJ5 _ _ ?_
                (try simp (maxSteps := 1000000) (dsimp := false) (disch := (first | omega | (simp only [okR]; done) | (simp only [sizeR] <;> omega) | fail)) only [↓preR, postR, ↓w_stop, Nat.reduceEqDiff, Nat.reduceAdd, Nat.reduceSub, Nat.reduceMul, Int.reduceNeg, Nat.reduceLT, Int.reduceToNat, Nat.reduceLeDiff, Nat.sub_zero, m45])
                refine join_now ?_
                (try simp (maxSteps := 1000000) (dsimp := false) (disch := (first | omega | (simp only [okR]; done) | (simp only [sizeR] <;> omega) | fail)) only [↓preR, postR, ↓w_stop, Nat.reduceEqDiff, Nat.reduceAdd, Nat.reduceSub, Nat.reduceMul, Int.reduceNeg, Nat.reduceLT, Int.reduceToNat, Nat.reduceLeDiff, Nat.sub_zero, m45, ↓w1])
                exact hk
            · have m45 : ¬ (c.toNat : Int) = 45 := fun e => hm (UInt8.toNat_inj.1 (by show _ = 45; omega))
              rw [if_neg hm] at hk
              by_cases hn : (n : Int) = 9223372036854775808
              · rw [if_pos (by omega)] at hk
                (try simp (maxSteps := 1000000) (dsimp := false) (disch := (first | omega | (simp only [okR]; done) | (simp only [sizeR] <;> omega) | fail)) only [↓preR, postR, ↓w_stop, Nat.reduceEqDiff, Nat.reduceAdd, Nat.reduceSub, Nat.reduceMul, Int.reduceNeg, Nat.reduceLT, Int.reduceToNat, Nat.reduceLeDiff, Nat.sub_zero, m45, hn])
                exact hk
              · rw [if_neg (by omega)] at hk
                have w1 := wrap64 (n : Int) (by omega) (by omega)
                (try simp (maxSteps := 1000000) (dsimp := false) (disch := (first | omega | (simp only [okR]; done) | (simp only [sizeR] <;> omega) | fail)) only [↓preR, postR, ↓w_stop, Nat.reduceEqDiff, Nat.reduceAdd, Nat.reduceSub, Nat.reduceMul, Int.reduceNeg, Nat.reduceLT, Int.reduceToNat, Nat.reduceLeDiff, Nat.sub_zero, m45, hn])
                refine hJ5 _ _ ?_
                (try simp (maxSteps := 1000000) (dsimp := false) (disch := (first | omega | (simp only [okR]; done) | (simp only [sizeR] <;> omega) | fail)) only [↓preR, postR, ↓w_stop, Nat.reduceEqDiff, Nat.reduceAdd, Nat.reduceSub, Nat.reduceMul, Int.reduceNeg, Nat.reduceLT, Int.reduceToNat, Nat.reduceLeDiff, Nat.sub_zero, m45])
                refine join_now ?_
                (try simp (maxSteps := 1000000) (dsimp := false) (disch := (first | omega | (simp only [okR]; done) | (simp only [sizeR] <;> omega) | fail)) only [↓preR, postR, ↓w_stop, Nat.reduceEqDiff, Nat.reduceAdd, Nat.reduceSub, Nat.reduceMul, Int.reduceNeg, Nat.reduceLT, Int.reduceToNat, Nat.reduceLeDiff, Nat.sub_zero, m45, ↓w1])
                exact hk
          · have hk2 : k (.tuple #[.int .i64 0, .int .i64 10]) σ := by
              cases hn : numP w with
              | none => rw [hn] at hk; exact hk
              | some n =>
                rw [hn] at hk
                have := q3 n hn
                simp only at hk
                by_cases hc : c = 45
                · rw [if_pos hc, if_pos this] at hk; exact hk
                · rw [if_neg hc, if_pos (by omega)] at hk; exact hk
            (try simp (maxSteps := 1000000) (dsimp := false) (disch := (first | omega | (simp only [okR]; done) | (simp only [sizeR] <;> omega) | fail)) only [↓preR, postR, ↓w_stop, Nat.reduceEqDiff, Nat.reduceAdd, Nat.reduceSub, Nat.reduceMul, Int.reduceNeg, Nat.reduceLT, Int.reduceToNat, Nat.reduceLeDiff, Nat.sub_zero])
            exact hk2
        clear hJ4
        by_cases hm : c = 45
        · have m45 : (c.toNat : Int) = 45 := by rw [hm]; rfl
          have tl := tail4 t (by rw [if_pos (.inr hm)])
          (try simp (maxSteps := 1000000) (dsimp := false) (disch := (first | omega | (simp only [okR]; done) | (simp only [sizeR] <;> omega) | fail)) only [↓preR, postR, ↓w_stop, Nat.reduceEqDiff, Nat.reduceAdd, Nat.reduceSub, Nat.reduceMul, Int.reduceNeg, Nat.reduceLT, Int.reduceToNat, Nat.reduceLeDiff, Nat.sub_zero, m45, et])
          exact tl
        have m45 : ¬ (c.toNat : Int) = 45 := fun e => hm (UInt8.toNat_inj.1 (by show _ = 45; omega))
        by_cases hp : c = 43
        · have m43 : (c.toNat : Int) = 43 := by rw [hp]; rfl
          have tl := tail4 t (by rw [if_pos (.inl hp)])
          (try simp (maxSteps := 1000000) (dsimp := false) (disch := (first | omega | (simp only [okR]; done) | (simp only [sizeR] <;> omega) | fail)) only [↓preR, postR, ↓w_stop, Nat.reduceEqDiff, Nat.reduceAdd, Nat.reduceSub, Nat.reduceMul, Int.reduceNeg, Nat.reduceLT, Int.reduceToNat, Nat.reduceLeDiff, Nat.sub_zero, m45, Option.getD_some, m43, et])
          exact tl
        · have m43 : ¬ (c.toNat : Int) = 43 := fun e => hp (UInt8.toNat_inj.1 (by show _ = 43; omega))
          have tl := tail4 (c :: t) (by rw [if_neg (fun h => h.elim hp hm)])
          (try simp (maxSteps := 1000000) (dsimp := false) (disch := (first | omega | (simp only [okR]; done) | (simp only [sizeR] <;> omega) | fail)) only [↓preR, postR, ↓w_stop, Nat.reduceEqDiff, Nat.reduceAdd, Nat.reduceSub, Nat.reduceMul, Int.reduceNeg, Nat.reduceLT, Int.reduceToNat, Nat.reduceLeDiff, Nat.sub_zero, m45, Option.getD_some, m43])
          exact tl
    clear hJ2
    refine loop_inv (fun nn xs s1 => ∃ l : Str, xs = [.string (bs l)] ∧ σ = s1 ∧ l.length ≤ 1000000 ∧ trimRightS l blk3 = trimS s blk3 ∧ nn = l.length) _ ⟨skipB s, rfl, rfl, Nat.le_trans (skip_len s) hs, trim_comm s, rfl⟩ ?_
    rintro _ _ s1 again ⟨l, rfl, rfl, hl, he, rfl⟩ hag
    (try simp (maxSteps := 1000000) (dsimp := false) (disch := (first | omega | (simp only [okR]; done) | (simp only [sizeR] <;> omega) | fail)) only [↓preR, postR, ↓w_stop, Nat.reduceEqDiff, Nat.reduceAdd, Nat.reduceSub, Nat.reduceMul, Int.reduceNeg, Nat.reduceLT, Int.reduceToNat, Nat.reduceLeDiff, Nat.sub_zero])
    refine join_by fun J8 hJ8 => ?_
    rcases List.eq_nil_or_concat l with rfl | ⟨t, c, rfl⟩
    · rw [← he] at tail2
      (try simp (maxSteps := 1000000) (dsimp := false) (disch := (first | omega | (simp only [okR]; done) | (simp only [sizeR] <;> omega) | fail)) only [↓preR, postR, ↓w_stop, Nat.reduceEqDiff, Nat.reduceAdd, Nat.reduceSub, Nat.reduceMul, Int.reduceNeg, Nat.reduceLT, Int.reduceToNat, Nat.reduceLeDiff, Nat.sub_zero])
      exact tail2
    · rw [List.concat_eq_append] at he hl hJ8 ⊢
      have hne : ¬ (t ++ [c] : Str) = [] := by simp
      have hlen : (t ++ [c]).length = t.length + 1 := by simp
      have eix : ((t.length + 1 : Nat) : Int) - 1 = ((t.length : Nat) : Int) := by omega
      have hg : ((t ++ [c])[t.length]?).getD 0 = c := by simp
      rw [hlen] at hl
      (try simp (maxSteps := 1000000) (dsimp := false) (disch := (first | omega | (simp only [okR]; done) | (simp only [sizeR] <;> omega) | fail)) only [↓preR, postR, ↓w_stop, Nat.reduceEqDiff, Nat.reduceAdd, Nat.reduceSub, Nat.reduceMul, Int.reduceNeg, Nat.reduceLT, Int.reduceToNat, Nat.reduceLeDiff, Nat.sub_zero, hne, hlen, eix, hg])
      refine blank_c ?_
      rw [trimR_cons] at he
      by_cases hb : blkB c
      · rw [if_pos hb] at he
        have etk : List.take t.length (t ++ [c]) = t := by simp
        (try simp (maxSteps := 1000000) (dsimp := false) (disch := (first | omega | (simp only [okR]; done) | (simp only [sizeR] <;> omega) | fail)) only [↓preR, postR, ↓w_stop, Nat.reduceEqDiff, Nat.reduceAdd, Nat.reduceSub, Nat.reduceMul, Int.reduceNeg, Nat.reduceLT, Int.reduceToNat, Nat.reduceLeDiff, Nat.sub_zero, hb])
        refine hJ8 _ _ ?_
        (try simp (maxSteps := 1000000) (dsimp := false) (disch := (first | omega | (simp only [okR]; done) | (simp only [sizeR] <;> omega) | fail)) only [↓preR, postR, ↓w_stop, Nat.reduceEqDiff, Nat.reduceAdd, Nat.reduceSub, Nat.reduceMul, Int.reduceNeg, Nat.reduceLT, Int.reduceToNat, Nat.reduceLeDiff, Nat.sub_zero, hlen, eix, etk])
        exact hag _ _ _ ⟨t, rfl, rfl, by omega, he, rfl⟩ (by simp)
      · rw [if_neg hb] at he
        rw [← he] at tail2
        (try simp (maxSteps := 1000000) (dsimp := false) (disch := (first | omega | (simp only [okR]; done) | (simp only [sizeR] <;> omega) | fail)) only [↓preR, postR, ↓w_stop, Nat.reduceEqDiff, Nat.reduceAdd, Nat.reduceSub, Nat.reduceMul, Int.reduceNeg, Nat.reduceLT, Int.reduceToNat, Nat.reduceLeDiff, Nat.sub_zero, hb])
        exact tail2
  clear hJ1
  refine loop_inv (fun nn xs s1 => ∃ l : Str, xs = [.string (bs l)] ∧ σ = s1 ∧ l.length ≤ 1000000 ∧ skipB l = skipB s ∧ nn = l.length) _ ⟨s, rfl, rfl, hs, rfl, rfl⟩ ?_
  rintro _ _ s1 again ⟨l, rfl, rfl, hl, he, rfl⟩ hag
  (try simp (maxSteps := 1000000) (dsimp := false) (disch := (first | omega | (simp only [okR]; done) | (simp only [sizeR] <;> omega) | fail)) only [↓preR, postR, ↓w_stop, Nat.reduceEqDiff, Nat.reduceAdd, Nat.reduceSub, Nat.reduceMul, Int.reduceNeg, Nat.reduceLT, Int.reduceToNat, Nat.reduceLeDiff, Nat.sub_zero])
  refine join_by fun J8 hJ8 => ?_
  cases l with
  | nil =>
    rw [← he] at tail1
    (try simp (maxSteps := 1000000) (dsimp := false) (disch := (first | omega | (simp only [okR]; done) | (simp only [sizeR] <;> omega) | fail)) only [↓preR, postR, ↓w_stop, Nat.reduceEqDiff, Nat.reduceAdd, Nat.reduceSub, Nat.reduceMul, Int.reduceNeg, Nat.reduceLT, Int.reduceToNat, Nat.reduceLeDiff, Nat.sub_zero])
    exact tail1
  | cons c t =>
    have hl1 : (c :: t).length = t.length + 1 := rfl
    rw [hl1] at hl
    have hne : ¬ (c :: t : Str) = [] := by simp
    have et : List.take (t.length + 1 - 1) t = t := List.take_of_length_le (by omega)
    (try simp (maxSteps := 1000000) (dsimp := false) (disch := (first | omega | (simp only [okR]; done) | (simp only [sizeR] <;> omega) | fail)) only [↓preR, postR, ↓w_stop, Nat.reduceEqDiff, Nat.reduceAdd, Nat.reduceSub, Nat.reduceMul, Int.reduceNeg, Nat.reduceLT, Int.reduceToNat, Nat.reduceLeDiff, Nat.sub_zero, hne, Option.getD_some])
    refine blank_c ?_
    rw [skip_cons] at he
    by_cases hb : blkB c
    · rw [if_pos hb] at he
      (try simp (maxSteps := 1000000) (dsimp := false) (disch := (first | omega | (simp only [okR]; done) | (simp only [sizeR] <;> omega) | fail)) only [↓preR, postR, ↓w_stop, Nat.reduceEqDiff, Nat.reduceAdd, Nat.reduceSub, Nat.reduceMul, Int.reduceNeg, Nat.reduceLT, Int.reduceToNat, Nat.reduceLeDiff, Nat.sub_zero, hb])
      refine hJ8 _ _ ?_
      (try simp (maxSteps := 1000000) (dsimp := false) (disch := (first | omega | (simp only [okR]; done) | (simp only [sizeR] <;> omega) | fail)) only [↓preR, postR, ↓w_stop, Nat.reduceEqDiff, Nat.reduceAdd, Nat.reduceSub, Nat.reduceMul, Int.reduceNeg, Nat.reduceLT, Int.reduceToNat, Nat.reduceLeDiff, Nat.sub_zero, et])
      exact hag _ _ _ ⟨t, rfl, rfl, by omega, he, rfl⟩ (by simp)
    · rw [if_neg hb] at he
      rw [← he] at tail1
      (try simp (maxSteps := 1000000) (dsimp := false) (disch := (first | omega | (simp only [okR]; done) | (simp only [sizeR] <;> omega) | fail)) only [↓preR, postR, ↓w_stop, Nat.reduceEqDiff, Nat.reduceAdd, Nat.reduceSub, Nat.reduceMul, Int.reduceNeg, Nat.reduceLT, Int.reduceToNat, Nat.reduceLeDiff, Nat.sub_zero, hb])
      exact tail1
end
end Go.Proofs.YtkbpbagjbjkpmaaGreatDoor

/- Arithmetic, as the document's answer works it out: operators, names that are asked. Conditions: as each theorem says. -/
namespace Go.Proofs.YtkbpbagjbjkpmaaGreatDoor
open E Go.Lib
open Rp
set_option linter.unusedVariables false
set_option linter.unusedSimpArgs false
set_option maxHeartbeats 1000000
set_option maxRecDepth 20000

theorem shlu_v (a b : Int) : sftV .shl (.int .i64 a) (.int .u64 (b % 64)) = some (.int .i64 (shI .shl a b)) := by
  have h : ¬ b % 64 < 0 := by omega
  unfold shI
  simp only [sftV, shV, if_neg h]
theorem shru_v (a b : Int) : sftV .shr (.int .i64 a) (.int .u64 (b % 64)) = some (.int .i64 (shI .shr a b)) := by
  have h : ¬ b % 64 < 0 := by omega
  unfold shI
  simp only [sftV, shV, if_neg h]
section
variable {σ σ' : AS} {X : Ce} {R : List Ck} {k : Value → AS → Prop} {s w S : Str} {p m : Nat} {vv u : Value} {st : ASt} {b : Bool} {c : UInt8} {x y : Int} {op : Str}
theorem of_c (h0 : ¬ rankOf op = 0) (h1 : ¬ rankOf op = 1) (h2 : ¬ rankOf op = 2) (hx : inI64 x) (hy : inI64 y) (h : Hs σ X (WoR p S vv u st b R))
    (hk : ∀ σ', Hs σ' X (WoR p S vv u (doesB op x y st b).2 b R) → k (.int .i64 (doesB op x y st b).1) σ') : kCall Tryz.prog 65 [pvw p, .string (bs op), .int .i64 x, .int .i64 y] σ k := by
  refine f65 ?_
  unfold doesB doesP at hk
  (try simp (maxSteps := 1000000) (dsimp := false) (disch := (first | omega | (simp only [okR]; done) | (simp only [sizeR] <;> omega) | fail)) only [↓preR, postR, ↓w_stop, Nat.reduceEqDiff, Nat.reduceAdd, Nat.reduceSub, Nat.reduceMul, Int.reduceNeg, Nat.reduceLT, Int.reduceToNat, Nat.reduceLeDiff, Nat.sub_zero, F65])
  refine join_by fun J1 hJ1 => ?_
  (try simp (maxSteps := 1000000) (dsimp := false) (disch := (first | omega | (simp only [okR]; done) | (simp only [sizeR] <;> omega) | fail)) only [↓preR, postR, ↓w_stop, Nat.reduceEqDiff, Nat.reduceAdd, Nat.reduceSub, Nat.reduceMul, Int.reduceNeg, Nat.reduceLT, Int.reduceToNat, Nat.reduceLeDiff, Nat.sub_zero])
  refine rlive_c h ?_
  cases b with
  | true =>
    rw [Bool.not_true, Bool.and_false]
    (try simp (maxSteps := 1000000) (dsimp := false) (disch := (first | omega | (simp only [okR]; done) | (simp only [sizeR] <;> omega) | fail)) only [↓preR, postR, ↓w_stop, Nat.reduceEqDiff, Nat.reduceAdd, Nat.reduceSub, Nat.reduceMul, Int.reduceNeg, Nat.reduceLT, Int.reduceToNat, Nat.reduceLeDiff, Nat.sub_zero])
    exact hk _ h
  | false =>
    rw [Bool.not_false, Bool.and_true]
    cases hl : st.live with
    | false =>
      rw [hl] at hk
      (try simp (maxSteps := 1000000) (dsimp := false) (disch := (first | omega | (simp only [okR]; done) | (simp only [sizeR] <;> omega) | fail)) only [↓preR, postR, ↓w_stop, Nat.reduceEqDiff, Nat.reduceAdd, Nat.reduceSub, Nat.reduceMul, Int.reduceNeg, Nat.reduceLT, Int.reduceToNat, Nat.reduceLeDiff, Nat.sub_zero])
      exact hk _ h
    | true =>
      rw [hl] at hk
      have hfell : st.fell = 0 := by
        unfold ASt.live at hl
        simp at hl
        exact hl.2
      have fin : ∀ n, doP op x y = (n, 0) → k (.int .i64 n) σ := by
        intro n hn
        simp only [if_true, Bool.false_eq_true, if_false, hn] at hk
        have e : ({ st with fell := 0 } : ASt) = st := by rw [← hfell]
        refine hk σ ?_
        have e2 : ({ left := st.left, over := st.over, fell := 0, sets := st.sets } : ASt) = st := e
        rw [e2]
        exact h
      have hsh : (IntKind.u64.wrap y).tmod 64 = y % 64 := by
        unfold inI64 at hy
        rw [IntKind.wrap_u64, Int.tmod_eq_emod_of_nonneg (by omega)]
        omega
      (try simp (maxSteps := 1000000) (dsimp := false) (disch := (first | omega | (simp only [okR]; done) | (simp only [sizeR] <;> omega) | fail)) only [↓preR, postR, ↓w_stop, Nat.reduceEqDiff, Nat.reduceAdd, Nat.reduceSub, Nat.reduceMul, Int.reduceNeg, Nat.reduceLT, Int.reduceToNat, Nat.reduceLeDiff, Nat.sub_zero])
      refine hJ1 _ _ ?_
      clear hJ1
      (try simp (maxSteps := 1000000) (dsimp := false) (disch := (first | omega | (simp only [okR]; done) | (simp only [sizeR] <;> omega) | fail)) only [↓preR, postR, ↓w_stop, Nat.reduceEqDiff, Nat.reduceAdd, Nat.reduceSub, Nat.reduceMul, Int.reduceNeg, Nat.reduceLT, Int.reduceToNat, Nat.reduceLeDiff, Nat.sub_zero])
      refine join_by fun J2 hJ2 => ?_
      have zero : y = 0 → (op = [47] ∨ op = [37]) → ∀ s2, s2 = σ.put p (.cells [.string (bs S), .int .i64 (posS S st.left), .int .i64 st.over, .bool false, .int .i64 13, vv, u]) → k (.int .i64 0) s2 := by
        intro hy0 ho s2 hs2
        have e : doP op x y = (0, 13) := by
          rcases ho with rfl | rfl
          · rw [do_quo, if_pos hy0]
          · rw [do_rem, if_pos hy0]
        simp only [if_true, Bool.false_eq_true, if_false, e] at hk
        rw [hs2]
        exact hk _ h.put
      obtain ⟨hlow, hlowI⟩ : ∃ hlow : Bool, hlow = decide (x = -9223372036854775808 ∧ y = -1) := ⟨_, rfl⟩
      have rest : ¬ (y = 0 ∧ (op = [47] ∨ op = [37])) → J2 [] σ := by
        intro hyz
        refine hJ2 _ _ ?_
        clear hJ2 zero
        have low : ∀ K : Value → Prop, K (.bool (decide (x = -9223372036854775808 ∧ y = -1))) → (kBin .eql (.int .i64 x) (.int .i64 (-9223372036854775808)) fun v27 => kGrd v27 true (fun k => kBin .eql (.int .i64 y) (.int .i64 (-1)) fun v30 => k [v30] σ) [undef] σ fun xs s => un1 xs fun v30 => kPick v27 v30 (.bool false) fun v31 => K v31) := by
          intro K hK
          by_cases hx1 : x = -9223372036854775808
          · by_cases hy1 : y = -1
            · rw [decide_eq_true ⟨hx1, hy1⟩] at hK
              (try simp (maxSteps := 1000000) (dsimp := false) (disch := (first | omega | (simp only [okR]; done) | (simp only [sizeR] <;> omega) | fail)) only [↓preR, postR, ↓w_stop, Nat.reduceEqDiff, Nat.reduceAdd, Nat.reduceSub, Nat.reduceMul, Int.reduceNeg, Nat.reduceLT, Int.reduceToNat, Nat.reduceLeDiff, Nat.sub_zero, hx1, hy1])
              exact hK
            · rw [decide_eq_false (fun h => hy1 h.2)] at hK
              (try simp (maxSteps := 1000000) (dsimp := false) (disch := (first | omega | (simp only [okR]; done) | (simp only [sizeR] <;> omega) | fail)) only [↓preR, postR, ↓w_stop, Nat.reduceEqDiff, Nat.reduceAdd, Nat.reduceSub, Nat.reduceMul, Int.reduceNeg, Nat.reduceLT, Int.reduceToNat, Nat.reduceLeDiff, Nat.sub_zero, hx1, hy1])
              exact hK
          · rw [decide_eq_false (fun h => hx1 h.1)] at hK
            (try simp (maxSteps := 1000000) (dsimp := false) (disch := (first | omega | (simp only [okR]; done) | (simp only [sizeR] <;> omega) | fail)) only [↓preR, postR, ↓w_stop, Nat.reduceEqDiff, Nat.reduceAdd, Nat.reduceSub, Nat.reduceMul, Int.reduceNeg, Nat.reduceLT, Int.reduceToNat, Nat.reduceLeDiff, Nat.sub_zero, hx1])
            exact hK
        refine low _ ?_
        clear low
        obtain ⟨lo, hlo⟩ : ∃ lo, lo = decide (x = -9223372036854775808 ∧ y = -1) := ⟨_, rfl⟩
        rw [← hlo]
        (try simp (maxSteps := 1000000) (dsimp := false) (disch := (first | omega | (simp only [okR]; done) | (simp only [sizeR] <;> omega) | fail)) only [↓preR, postR, ↓w_stop, Nat.reduceEqDiff, Nat.reduceAdd, Nat.reduceSub, Nat.reduceMul, Int.reduceNeg, Nat.reduceLT, Int.reduceToNat, Nat.reduceLeDiff, Nat.sub_zero])
        refine join_by fun J3 hJ3 => ?_
        by_cases e124 : op = [124]
        · have pe : (op = ([124] : Str)) = True := eq_true e124
          have fn := fin (doP op x y).1 (by rw [e124]; rfl)
          rw [e124] at fn
          (try simp (maxSteps := 1000000) (dsimp := false) (disch := (first | omega | (simp only [okR]; done) | (simp only [sizeR] <;> omega) | fail)) only [↓preR, postR, ↓w_stop, Nat.reduceEqDiff, Nat.reduceAdd, Nat.reduceSub, Nat.reduceMul, Int.reduceNeg, Nat.reduceLT, Int.reduceToNat, Nat.reduceLeDiff, Nat.sub_zero, pe, or_v])
          exact fn
        by_cases e94 : op = [94]
        · have pe : (op = ([94] : Str)) = True := eq_true e94
          have fn := fin (doP op x y).1 (by rw [e94]; rfl)
          rw [e94] at fn
          (try simp (maxSteps := 1000000) (dsimp := false) (disch := (first | omega | (simp only [okR]; done) | (simp only [sizeR] <;> omega) | fail)) only [↓preR, postR, ↓w_stop, Nat.reduceEqDiff, Nat.reduceAdd, Nat.reduceSub, Nat.reduceMul, Int.reduceNeg, Nat.reduceLT, Int.reduceToNat, Nat.reduceLeDiff, Nat.sub_zero, e124, pe, xor_v])
          exact fn
        by_cases e38 : op = [38]
        · have pe : (op = ([38] : Str)) = True := eq_true e38
          have fn := fin (doP op x y).1 (by rw [e38]; rfl)
          rw [e38] at fn
          (try simp (maxSteps := 1000000) (dsimp := false) (disch := (first | omega | (simp only [okR]; done) | (simp only [sizeR] <;> omega) | fail)) only [↓preR, postR, ↓w_stop, Nat.reduceEqDiff, Nat.reduceAdd, Nat.reduceSub, Nat.reduceMul, Int.reduceNeg, Nat.reduceLT, Int.reduceToNat, Nat.reduceLeDiff, Nat.sub_zero, e124, e94, pe, and_v])
          exact fn
        by_cases e61_61 : op = [61, 61]
        · have pe : (op = ([61, 61] : Str)) = True := eq_true e61_61
          have fn := fin (doP op x y).1 (by rw [e61_61]; rfl)
          rw [e61_61] at fn
          (try simp (maxSteps := 1000000) (dsimp := false) (disch := (first | omega | (simp only [okR]; done) | (simp only [sizeR] <;> omega) | fail)) only [↓preR, postR, ↓w_stop, Nat.reduceEqDiff, Nat.reduceAdd, Nat.reduceSub, Nat.reduceMul, Int.reduceNeg, Nat.reduceLT, Int.reduceToNat, Nat.reduceLeDiff, Nat.sub_zero, e124, e94, e38, pe])
          refine truth_c ?_
          (try simp (maxSteps := 1000000) (dsimp := false) (disch := (first | omega | (simp only [okR]; done) | (simp only [sizeR] <;> omega) | fail)) only [↓preR, postR, ↓w_stop, Nat.reduceEqDiff, Nat.reduceAdd, Nat.reduceSub, Nat.reduceMul, Int.reduceNeg, Nat.reduceLT, Int.reduceToNat, Nat.reduceLeDiff, Nat.sub_zero])
          exact fn
        by_cases e33_61 : op = [33, 61]
        · have pe : (op = ([33, 61] : Str)) = True := eq_true e33_61
          have fn := fin (doP op x y).1 (by rw [e33_61]; rfl)
          rw [e33_61] at fn
          (try simp (maxSteps := 1000000) (dsimp := false) (disch := (first | omega | (simp only [okR]; done) | (simp only [sizeR] <;> omega) | fail)) only [↓preR, postR, ↓w_stop, Nat.reduceEqDiff, Nat.reduceAdd, Nat.reduceSub, Nat.reduceMul, Int.reduceNeg, Nat.reduceLT, Int.reduceToNat, Nat.reduceLeDiff, Nat.sub_zero, e124, e94, e38, e61_61, pe])
          refine truth_c ?_
          (try simp (maxSteps := 1000000) (dsimp := false) (disch := (first | omega | (simp only [okR]; done) | (simp only [sizeR] <;> omega) | fail)) only [↓preR, postR, ↓w_stop, Nat.reduceEqDiff, Nat.reduceAdd, Nat.reduceSub, Nat.reduceMul, Int.reduceNeg, Nat.reduceLT, Int.reduceToNat, Nat.reduceLeDiff, Nat.sub_zero])
          first
            | exact fn
            | (rw [show (!decide (x = y)) = decide (¬ x = y) from (by simp)]; exact fn)
        by_cases e60 : op = [60]
        · have pe : (op = ([60] : Str)) = True := eq_true e60
          have fn := fin (doP op x y).1 (by rw [e60]; rfl)
          rw [e60] at fn
          (try simp (maxSteps := 1000000) (dsimp := false) (disch := (first | omega | (simp only [okR]; done) | (simp only [sizeR] <;> omega) | fail)) only [↓preR, postR, ↓w_stop, Nat.reduceEqDiff, Nat.reduceAdd, Nat.reduceSub, Nat.reduceMul, Int.reduceNeg, Nat.reduceLT, Int.reduceToNat, Nat.reduceLeDiff, Nat.sub_zero, e124, e94, e38, e61_61, e33_61, pe])
          refine truth_c ?_
          (try simp (maxSteps := 1000000) (dsimp := false) (disch := (first | omega | (simp only [okR]; done) | (simp only [sizeR] <;> omega) | fail)) only [↓preR, postR, ↓w_stop, Nat.reduceEqDiff, Nat.reduceAdd, Nat.reduceSub, Nat.reduceMul, Int.reduceNeg, Nat.reduceLT, Int.reduceToNat, Nat.reduceLeDiff, Nat.sub_zero])
          exact fn
        by_cases e60_61 : op = [60, 61]
        · have pe : (op = ([60, 61] : Str)) = True := eq_true e60_61
          have fn := fin (doP op x y).1 (by rw [e60_61]; rfl)
          rw [e60_61] at fn
          (try simp (maxSteps := 1000000) (dsimp := false) (disch := (first | omega | (simp only [okR]; done) | (simp only [sizeR] <;> omega) | fail)) only [↓preR, postR, ↓w_stop, Nat.reduceEqDiff, Nat.reduceAdd, Nat.reduceSub, Nat.reduceMul, Int.reduceNeg, Nat.reduceLT, Int.reduceToNat, Nat.reduceLeDiff, Nat.sub_zero, e124, e94, e38, e61_61, e33_61, e60, pe])
          refine truth_c ?_
          (try simp (maxSteps := 1000000) (dsimp := false) (disch := (first | omega | (simp only [okR]; done) | (simp only [sizeR] <;> omega) | fail)) only [↓preR, postR, ↓w_stop, Nat.reduceEqDiff, Nat.reduceAdd, Nat.reduceSub, Nat.reduceMul, Int.reduceNeg, Nat.reduceLT, Int.reduceToNat, Nat.reduceLeDiff, Nat.sub_zero])
          exact fn
        by_cases e62 : op = [62]
        · have pe : (op = ([62] : Str)) = True := eq_true e62
          have fn := fin (doP op x y).1 (by rw [e62]; rfl)
          rw [e62] at fn
          (try simp (maxSteps := 1000000) (dsimp := false) (disch := (first | omega | (simp only [okR]; done) | (simp only [sizeR] <;> omega) | fail)) only [↓preR, postR, ↓w_stop, Nat.reduceEqDiff, Nat.reduceAdd, Nat.reduceSub, Nat.reduceMul, Int.reduceNeg, Nat.reduceLT, Int.reduceToNat, Nat.reduceLeDiff, Nat.sub_zero, e124, e94, e38, e61_61, e33_61, e60, e60_61, pe])
          refine truth_c ?_
          (try simp (maxSteps := 1000000) (dsimp := false) (disch := (first | omega | (simp only [okR]; done) | (simp only [sizeR] <;> omega) | fail)) only [↓preR, postR, ↓w_stop, Nat.reduceEqDiff, Nat.reduceAdd, Nat.reduceSub, Nat.reduceMul, Int.reduceNeg, Nat.reduceLT, Int.reduceToNat, Nat.reduceLeDiff, Nat.sub_zero])
          exact fn
        by_cases e62_61 : op = [62, 61]
        · have pe : (op = ([62, 61] : Str)) = True := eq_true e62_61
          have fn := fin (doP op x y).1 (by rw [e62_61]; rfl)
          rw [e62_61] at fn
          (try simp (maxSteps := 1000000) (dsimp := false) (disch := (first | omega | (simp only [okR]; done) | (simp only [sizeR] <;> omega) | fail)) only [↓preR, postR, ↓w_stop, Nat.reduceEqDiff, Nat.reduceAdd, Nat.reduceSub, Nat.reduceMul, Int.reduceNeg, Nat.reduceLT, Int.reduceToNat, Nat.reduceLeDiff, Nat.sub_zero, e124, e94, e38, e61_61, e33_61, e60, e60_61, e62, pe])
          refine truth_c ?_
          (try simp (maxSteps := 1000000) (dsimp := false) (disch := (first | omega | (simp only [okR]; done) | (simp only [sizeR] <;> omega) | fail)) only [↓preR, postR, ↓w_stop, Nat.reduceEqDiff, Nat.reduceAdd, Nat.reduceSub, Nat.reduceMul, Int.reduceNeg, Nat.reduceLT, Int.reduceToNat, Nat.reduceLeDiff, Nat.sub_zero])
          exact fn
        by_cases e60_60 : op = [60, 60]
        · have pe : (op = ([60, 60] : Str)) = True := eq_true e60_60
          have fn := fin (doP op x y).1 (by rw [e60_60]; rfl)
          rw [e60_60] at fn
          (try simp (maxSteps := 1000000) (dsimp := false) (disch := (first | omega | (simp only [okR]; done) | (simp only [sizeR] <;> omega) | fail)) only [↓preR, postR, ↓w_stop, Nat.reduceEqDiff, Nat.reduceAdd, Nat.reduceSub, Nat.reduceMul, Int.reduceNeg, Nat.reduceLT, Int.reduceToNat, Nat.reduceLeDiff, Nat.sub_zero, e124, e94, e38, e61_61, e33_61, e60, e60_61, e62, e62_61, pe, hsh, shlu_v, shru_v])
          exact fn
        by_cases e62_62 : op = [62, 62]
        · have pe : (op = ([62, 62] : Str)) = True := eq_true e62_62
          have fn := fin (doP op x y).1 (by rw [e62_62]; rfl)
          rw [e62_62] at fn
          (try simp (maxSteps := 1000000) (dsimp := false) (disch := (first | omega | (simp only [okR]; done) | (simp only [sizeR] <;> omega) | fail)) only [↓preR, postR, ↓w_stop, Nat.reduceEqDiff, Nat.reduceAdd, Nat.reduceSub, Nat.reduceMul, Int.reduceNeg, Nat.reduceLT, Int.reduceToNat, Nat.reduceLeDiff, Nat.sub_zero, e124, e94, e38, e61_61, e33_61, e60, e60_61, e62, e62_61, e60_60, pe, hsh, shlu_v, shru_v])
          exact fn
        by_cases e43 : op = [43]
        · have pe : (op = ([43] : Str)) = True := eq_true e43
          have fn := fin (doP op x y).1 (by rw [e43]; rfl)
          rw [e43] at fn
          (try simp (maxSteps := 1000000) (dsimp := false) (disch := (first | omega | (simp only [okR]; done) | (simp only [sizeR] <;> omega) | fail)) only [↓preR, postR, ↓w_stop, Nat.reduceEqDiff, Nat.reduceAdd, Nat.reduceSub, Nat.reduceMul, Int.reduceNeg, Nat.reduceLT, Int.reduceToNat, Nat.reduceLeDiff, Nat.sub_zero, e124, e94, e38, e61_61, e33_61, e60, e60_61, e62, e62_61, e60_60, e62_62, pe])
          exact fn
        by_cases e45 : op = [45]
        · have pe : (op = ([45] : Str)) = True := eq_true e45
          have fn := fin (doP op x y).1 (by rw [e45]; rfl)
          rw [e45] at fn
          (try simp (maxSteps := 1000000) (dsimp := false) (disch := (first | omega | (simp only [okR]; done) | (simp only [sizeR] <;> omega) | fail)) only [↓preR, postR, ↓w_stop, Nat.reduceEqDiff, Nat.reduceAdd, Nat.reduceSub, Nat.reduceMul, Int.reduceNeg, Nat.reduceLT, Int.reduceToNat, Nat.reduceLeDiff, Nat.sub_zero, e124, e94, e38, e61_61, e33_61, e60, e60_61, e62, e62_61, e60_60, e62_62, e43, pe])
          exact fn
        by_cases e42 : op = [42]
        · have pe : (op = ([42] : Str)) = True := eq_true e42
          have fn := fin (doP op x y).1 (by rw [e42]; rfl)
          rw [e42] at fn
          (try simp (maxSteps := 1000000) (dsimp := false) (disch := (first | omega | (simp only [okR]; done) | (simp only [sizeR] <;> omega) | fail)) only [↓preR, postR, ↓w_stop, Nat.reduceEqDiff, Nat.reduceAdd, Nat.reduceSub, Nat.reduceMul, Int.reduceNeg, Nat.reduceLT, Int.reduceToNat, Nat.reduceLeDiff, Nat.sub_zero, e124, e94, e38, e61_61, e33_61, e60, e60_61, e62, e62_61, e60_60, e62_62, e43, e45, pe])
          exact fn
        by_cases e47 : op = [47]
        · have pe : (op = ([47] : Str)) = True := eq_true e47
          have hy0 : ¬ y = 0 := fun h => hyz ⟨h, .inl e47⟩
          cases lo with
          | true =>
            have hl2 : x = lowI ∧ y = -1 := of_decide_eq_true hlo.symm
            have fn := fin lowI (by rw [e47, do_quo, if_neg hy0, if_pos hl2])
            have hx1 : x = lowI := hl2.1
            rw [← hx1] at fn
            (try simp (maxSteps := 1000000) (dsimp := false) (disch := (first | omega | (simp only [okR]; done) | (simp only [sizeR] <;> omega) | fail)) only [↓preR, postR, ↓w_stop, Nat.reduceEqDiff, Nat.reduceAdd, Nat.reduceSub, Nat.reduceMul, Int.reduceNeg, Nat.reduceLT, Int.reduceToNat, Nat.reduceLeDiff, Nat.sub_zero, e124, e94, e38, e61_61, e33_61, e60, e60_61, e62, e62_61, e60_60, e62_62, e43, e45, e42, pe])
            refine join_now ?_
            (try simp (maxSteps := 1000000) (dsimp := false) (disch := (first | omega | (simp only [okR]; done) | (simp only [sizeR] <;> omega) | fail)) only [↓preR, postR, ↓w_stop, Nat.reduceEqDiff, Nat.reduceAdd, Nat.reduceSub, Nat.reduceMul, Int.reduceNeg, Nat.reduceLT, Int.reduceToNat, Nat.reduceLeDiff, Nat.sub_zero])
            exact fn
          | false =>
            have hl2 : ¬ (x = lowI ∧ y = -1) := of_decide_eq_false hlo.symm
            have fn := fin (wI (x.tdiv y)) (by rw [e47, do_quo, if_neg hy0, if_neg hl2])
            (try simp (maxSteps := 1000000) (dsimp := false) (disch := (first | omega | (simp only [okR]; done) | (simp only [sizeR] <;> omega) | fail)) only [↓preR, postR, ↓w_stop, Nat.reduceEqDiff, Nat.reduceAdd, Nat.reduceSub, Nat.reduceMul, Int.reduceNeg, Nat.reduceLT, Int.reduceToNat, Nat.reduceLeDiff, Nat.sub_zero, e124, e94, e38, e61_61, e33_61, e60, e60_61, e62, e62_61, e60_60, e62_62, e43, e45, e42, pe])
            refine join_now ?_
            (try simp (maxSteps := 1000000) (dsimp := false) (disch := (first | omega | (simp only [okR]; done) | (simp only [sizeR] <;> omega) | fail)) only [↓preR, postR, ↓w_stop, Nat.reduceEqDiff, Nat.reduceAdd, Nat.reduceSub, Nat.reduceMul, Int.reduceNeg, Nat.reduceLT, Int.reduceToNat, Nat.reduceLeDiff, Nat.sub_zero, hy0])
            exact fn
        have e37 : op = [37] := by
          have hm := rank_cases h0
          simp only [opNames, List.mem_cons, List.not_mem_nil, or_false] at hm
          rcases hm with h | h | h | h | h | h | h | h | h | h | h | h | h | h | h | h | h | h
          · rw [h] at h1; exact absurd rfl h1
          · rw [h] at h2; exact absurd rfl h2
          all_goals first
            | exact h
            | contradiction
        have hy0 : ¬ y = 0 := fun h => hyz ⟨h, .inr e37⟩
        (try simp (maxSteps := 1000000) (dsimp := false) (disch := (first | omega | (simp only [okR]; done) | (simp only [sizeR] <;> omega) | fail)) only [↓preR, postR, ↓w_stop, Nat.reduceEqDiff, Nat.reduceAdd, Nat.reduceSub, Nat.reduceMul, Int.reduceNeg, Nat.reduceLT, Int.reduceToNat, Nat.reduceLeDiff, Nat.sub_zero, e124, e94, e38, e61_61, e33_61, e60, e60_61, e62, e62_61, e60_60, e62_62, e43, e45, e42, e47])
        refine hJ3 _ _ ?_
        clear hJ3
        cases lo with
        | true =>
          have hl2 : x = lowI ∧ y = -1 := of_decide_eq_true hlo.symm
          have fn := fin 0 (by rw [e37, do_rem, if_neg hy0, if_pos hl2])
          (try simp (maxSteps := 1000000) (dsimp := false) (disch := (first | omega | (simp only [okR]; done) | (simp only [sizeR] <;> omega) | fail)) only [↓preR, postR, ↓w_stop, Nat.reduceEqDiff, Nat.reduceAdd, Nat.reduceSub, Nat.reduceMul, Int.reduceNeg, Nat.reduceLT, Int.reduceToNat, Nat.reduceLeDiff, Nat.sub_zero])
          refine join_now ?_
          (try simp (maxSteps := 1000000) (dsimp := false) (disch := (first | omega | (simp only [okR]; done) | (simp only [sizeR] <;> omega) | fail)) only [↓preR, postR, ↓w_stop, Nat.reduceEqDiff, Nat.reduceAdd, Nat.reduceSub, Nat.reduceMul, Int.reduceNeg, Nat.reduceLT, Int.reduceToNat, Nat.reduceLeDiff, Nat.sub_zero])
          exact fn
        | false =>
          have hl2 : ¬ (x = lowI ∧ y = -1) := of_decide_eq_false hlo.symm
          have fn := fin (x.tmod y) (by rw [e37, do_rem, if_neg hy0, if_neg hl2])
          (try simp (maxSteps := 1000000) (dsimp := false) (disch := (first | omega | (simp only [okR]; done) | (simp only [sizeR] <;> omega) | fail)) only [↓preR, postR, ↓w_stop, Nat.reduceEqDiff, Nat.reduceAdd, Nat.reduceSub, Nat.reduceMul, Int.reduceNeg, Nat.reduceLT, Int.reduceToNat, Nat.reduceLeDiff, Nat.sub_zero])
          refine join_now ?_
          (try simp (maxSteps := 1000000) (dsimp := false) (disch := (first | omega | (simp only [okR]; done) | (simp only [sizeR] <;> omega) | fail)) only [↓preR, postR, ↓w_stop, Nat.reduceEqDiff, Nat.reduceAdd, Nat.reduceSub, Nat.reduceMul, Int.reduceNeg, Nat.reduceLT, Int.reduceToNat, Nat.reduceLeDiff, Nat.sub_zero, hy0])
          exact fn
      clear hJ2
      by_cases e47 : op = [47]
      · have pe : (op = ([47] : Str)) = True := eq_true e47
        by_cases hy0 : y = 0
        · have z := zero hy0 (.inl e47)
          (try simp (maxSteps := 1000000) (dsimp := false) (disch := (first | omega | (simp only [okR]; done) | (simp only [sizeR] <;> omega) | fail)) only [↓preR, postR, ↓w_stop, Nat.reduceEqDiff, Nat.reduceAdd, Nat.reduceSub, Nat.reduceMul, Int.reduceNeg, Nat.reduceLT, Int.reduceToNat, Nat.reduceLeDiff, Nat.sub_zero, pe, hy0, h.obj])
          exact z _ rfl
        · (try simp (maxSteps := 1000000) (dsimp := false) (disch := (first | omega | (simp only [okR]; done) | (simp only [sizeR] <;> omega) | fail)) only [↓preR, postR, ↓w_stop, Nat.reduceEqDiff, Nat.reduceAdd, Nat.reduceSub, Nat.reduceMul, Int.reduceNeg, Nat.reduceLT, Int.reduceToNat, Nat.reduceLeDiff, Nat.sub_zero, pe, hy0])
          exact rest (fun h => hy0 h.1)
      by_cases e37 : op = [37]
      · have pe : (op = ([37] : Str)) = True := eq_true e37
        by_cases hy0 : y = 0
        · have z := zero hy0 (.inr e37)
          (try simp (maxSteps := 1000000) (dsimp := false) (disch := (first | omega | (simp only [okR]; done) | (simp only [sizeR] <;> omega) | fail)) only [↓preR, postR, ↓w_stop, Nat.reduceEqDiff, Nat.reduceAdd, Nat.reduceSub, Nat.reduceMul, Int.reduceNeg, Nat.reduceLT, Int.reduceToNat, Nat.reduceLeDiff, Nat.sub_zero, e47, pe, hy0, h.obj])
          exact z _ rfl
        · (try simp (maxSteps := 1000000) (dsimp := false) (disch := (first | omega | (simp only [okR]; done) | (simp only [sizeR] <;> omega) | fail)) only [↓preR, postR, ↓w_stop, Nat.reduceEqDiff, Nat.reduceAdd, Nat.reduceSub, Nat.reduceMul, Int.reduceNeg, Nat.reduceLT, Int.reduceToNat, Nat.reduceLeDiff, Nat.sub_zero, e47, pe, hy0])
          exact rest (fun h => hy0 h.1)
      (try simp (maxSteps := 1000000) (dsimp := false) (disch := (first | omega | (simp only [okR]; done) | (simp only [sizeR] <;> omega) | fail)) only [↓preR, postR, ↓w_stop, Nat.reduceEqDiff, Nat.reduceAdd, Nat.reduceSub, Nat.reduceMul, Int.reduceNeg, Nat.reduceLT, Int.reduceToNat, Nat.reduceLeDiff, Nat.sub_zero, e47, e37])
      exact rest (fun h => h.2.elim e47 e37)
theorem rask_c {B : Nat} {vars : List (Str × Str)} (hV : VarsI X vv vars) (hI : SetsI B st.sets) (hn1 : st.sets.length ≤ 1000000) (h : Hs σ X (WoR p S vv u st b R))
    (hk : ∀ σ', Hs σ' X (WoR p S vv u (askB (lookV vars) st b w).2 b R) → k (.int .i64 (askB (lookV vars) st b w).1) σ') :
    kCall Tryz.prog 64 [pvw p, .string (bs w)] σ k := by
  refine f64 ?_
  unfold askB askP at hk
  (try simp (maxSteps := 1000000) (dsimp := false) (disch := (first | omega | (simp only [okR]; done) | (simp only [sizeR] <;> omega) | fail)) only [↓preR, postR, ↓w_stop, Nat.reduceEqDiff, Nat.reduceAdd, Nat.reduceSub, Nat.reduceMul, Int.reduceNeg, Nat.reduceLT, Int.reduceToNat, Nat.reduceLeDiff, Nat.sub_zero, F64])
  refine join_by fun J1 hJ1 => ?_
  (try simp (maxSteps := 1000000) (dsimp := false) (disch := (first | omega | (simp only [okR]; done) | (simp only [sizeR] <;> omega) | fail)) only [↓preR, postR, ↓w_stop, Nat.reduceEqDiff, Nat.reduceAdd, Nat.reduceSub, Nat.reduceMul, Int.reduceNeg, Nat.reduceLT, Int.reduceToNat, Nat.reduceLeDiff, Nat.sub_zero])
  refine rlive_c h ?_
  cases b with
  | true =>
    rw [Bool.not_true, Bool.and_false]
    (try simp (maxSteps := 1000000) (dsimp := false) (disch := (first | omega | (simp only [okR]; done) | (simp only [sizeR] <;> omega) | fail)) only [↓preR, postR, ↓w_stop, Nat.reduceEqDiff, Nat.reduceAdd, Nat.reduceSub, Nat.reduceMul, Int.reduceNeg, Nat.reduceLT, Int.reduceToNat, Nat.reduceLeDiff, Nat.sub_zero])
    exact hk _ h
  | false =>
    rw [Bool.not_false, Bool.and_true]
    cases hl : st.live with
    | false =>
      rw [hl] at hk
      (try simp (maxSteps := 1000000) (dsimp := false) (disch := (first | omega | (simp only [okR]; done) | (simp only [sizeR] <;> omega) | fail)) only [↓preR, postR, ↓w_stop, Nat.reduceEqDiff, Nat.reduceAdd, Nat.reduceSub, Nat.reduceMul, Int.reduceNeg, Nat.reduceLT, Int.reduceToNat, Nat.reduceLeDiff, Nat.sub_zero])
      exact hk _ h
    | true =>
      rw [hl] at hk
      (try simp (maxSteps := 1000000) (dsimp := false) (disch := (first | omega | (simp only [okR]; done) | (simp only [sizeR] <;> omega) | fail)) only [↓preR, postR, ↓w_stop, Nat.reduceEqDiff, Nat.reduceAdd, Nat.reduceSub, Nat.reduceMul, Int.reduceNeg, Nat.reduceLT, Int.reduceToNat, Nat.reduceLeDiff, Nat.sub_zero])
      refine hJ1 _ _ ?_
      clear hJ1
      obtain ⟨va, vb, vo, vcap, rfl, hvc, hvm, hvat⟩ := pair_at hV.r
      unfold maxLen at hvm
      obtain ⟨ux, uc, rfl, huc⟩ := h.own1
      have hlen : (setsT st).length = st.sets.length := by simp
      -- what is answered for a text
      have ans : ∀ (v0 : Str) s1, v0.length ≤ 1000000 → Hs s1 X (WoR p S (.slice va vars.length vcap) (.slice ux (setsT st).length uc) st false R) → (lookS st.sets w = none → v0 = ((vars.find? fun p => decide (p.1 = w)).map (·.2)).getD []) → (∀ n, lookS st.sets w = some n → v0 = itoa n) →
          ∀ (s2 : AS), s2 = s1.put p (.cells [.string (bs S), .int .i64 (posS S st.left), .int .i64 st.over, .bool false, .int .i64 (valueP v0).2, .slice va vars.length vcap, .slice ux (setsT st).length uc]) → k (.int .i64 (valueP v0).1) s2 := by
        intro v0 s1 hv0 h1 hno hyes s2 hs2
        subst hs2
        cases hls : lookS st.sets w with
        | some n =>
          rw [hls] at hk
          have hn := look_in hI hls
          have hv := val_itoa hn
          rw [hyes n hls, hv]
          have hfell : st.fell = 0 := by
            unfold ASt.live at hl
            simp at hl
            exact hl.2
          refine hk _ ?_
          have h5 := h1.put (cs' := woC S st false (.slice va vars.length vcap) (.slice ux (setsT st).length uc))
          rw [← hfell]
          exact h5
        | none =>
          rw [hls] at hk
          have h5 := h1.put (cs' := woC S { st with fell := (valueP v0).2 } false (.slice va vars.length vcap) (.slice ux (setsT st).length uc))
          have elv : lookV vars w = valueP v0 := by unfold lookV; rw [← hno hls]
          simp only [if_true, Bool.false_eq_true, if_false, elv] at hk
          exact hk _ h5
      (try simp (maxSteps := 1000000) (dsimp := false) (disch := (first | omega | (simp only [okR]; done) | (simp only [sizeR] <;> omega) | fail)) only [↓preR, postR, ↓w_stop, Nat.reduceEqDiff, Nat.reduceAdd, Nat.reduceSub, Nat.reduceMul, Int.reduceNeg, Nat.reduceLT, Int.reduceToNat, Nat.reduceLeDiff, Nat.sub_zero])
      refine join_by fun J2 hJ2 => ?_
      have find_ : ∀ j (hj : j < vars.length), (vars.drop j).find? (fun p => decide (p.1 = w)) = if vars[j].1 = w then some vars[j] else (vars.drop (j + 1)).find? (fun p => decide (p.1 = w)) := by
        intro j hj
        rw [List.drop_eq_getElem_cons hj, List.find?_cons]
        by_cases hq : vars[j].1 = w
        · rw [if_pos hq, decide_eq_true hq]
        · rw [if_neg hq, decide_eq_false hq]
      have tail2 : ∀ (v0 : Str) (done : Bool), v0.length ≤ 1000000 → (done = true → ∃ n, lookS st.sets w = some n ∧ v0 = itoa n) → (done = false → lookS st.sets w = none ∧ v0 = []) → J2 [.string (bs v0), .bool done] σ := by
        intro v0 done hv0 hd1 hd2
        refine hJ2 _ _ ?_
        clear hJ2
        (try simp (maxSteps := 1000000) (dsimp := false) (disch := (first | omega | (simp only [okR]; done) | (simp only [sizeR] <;> omega) | fail)) only [↓preR, postR, ↓w_stop, Nat.reduceEqDiff, Nat.reduceAdd, Nat.reduceSub, Nat.reduceMul, Int.reduceNeg, Nat.reduceLT, Int.reduceToNat, Nat.reduceLeDiff, Nat.sub_zero])
        refine join_by fun J3 hJ3 => ?_
        have tail3 : ∀ v1 : Str, v1.length ≤ 1000000 → (lookS st.sets w = none → v1 = ((vars.find? fun p => decide (p.1 = w)).map (·.2)).getD []) → (∀ n, lookS st.sets w = some n → v1 = itoa n) → J3 [.string (bs v1)] σ := by
          intro v1 hv1 q1 q2
          refine hJ3 _ _ ?_
          clear hJ3
          (try simp (maxSteps := 1000000) (dsimp := false) (disch := (first | omega | (simp only [okR]; done) | (simp only [sizeR] <;> omega) | fail)) only [↓preR, postR, ↓w_stop, Nat.reduceEqDiff, Nat.reduceAdd, Nat.reduceSub, Nat.reduceMul, Int.reduceNeg, Nat.reduceLT, Int.reduceToNat, Nat.reduceLeDiff, Nat.sub_zero])
          refine rvalue_c hv1 ?_
          (try simp (maxSteps := 1000000) (dsimp := false) (disch := (first | omega | (simp only [okR]; done) | (simp only [sizeR] <;> omega) | fail)) only [↓preR, postR, ↓w_stop, Nat.reduceEqDiff, Nat.reduceAdd, Nat.reduceSub, Nat.reduceMul, Int.reduceNeg, Nat.reduceLT, Int.reduceToNat, Nat.reduceLeDiff, Nat.sub_zero, h.obj])
          exact ans v1 σ hv1 h q1 q2 _ rfl
        clear hJ3 ans
        refine loop_inv (fun nn xs s1 => ∃ (j : Nat) (v1 : Str) (dn : Bool), xs = [.string (bs v1), .bool dn, .int .i64 j] ∧ σ = s1 ∧ j ≤ vars.length ∧ v1.length ≤ 1000000 ∧
          (dn = true → (lookS st.sets w = none → v1 = ((vars.find? fun p => decide (p.1 = w)).map (·.2)).getD []) ∧ (∀ n, lookS st.sets w = some n → v1 = itoa n)) ∧
          (dn = false → lookS st.sets w = none ∧ v1 = [] ∧ vars.find? (fun p => decide (p.1 = w)) = (vars.drop j).find? (fun p => decide (p.1 = w))) ∧ nn = vars.length - j) _ ⟨0, v0, done, rfl, rfl, Nat.zero_le _, hv0, fun hd => ?_, fun hd => ?_, rfl⟩ ?_
        · obtain ⟨n, q1, q2⟩ := hd1 hd
          exact ⟨(fun h => by rw [q1] at h; cases h), (fun n' h => by rw [q1] at h; cases h; exact q2)⟩
        · exact ⟨(hd2 hd).1, (hd2 hd).2, rfl⟩
        rintro _ _ s1 again ⟨j, v1, dn, rfl, rfl, hj, hv1, e1, e2, rfl⟩ hag
        (try simp (maxSteps := 1000000) (dsimp := false) (disch := (first | omega | (simp only [okR]; done) | (simp only [sizeR] <;> omega) | fail)) only [↓preR, postR, ↓w_stop, Nat.reduceEqDiff, Nat.reduceAdd, Nat.reduceSub, Nat.reduceMul, Int.reduceNeg, Nat.reduceLT, Int.reduceToNat, Nat.reduceLeDiff, Nat.sub_zero])
        refine join_by fun J5 hJ5 => ?_
        by_cases hlt : j < vars.length
        rotate_left
        · have tl := tail3 v1 hv1
          cases dn with
          | true =>
            (try simp (maxSteps := 1000000) (dsimp := false) (disch := (first | omega | (simp only [okR]; done) | (simp only [sizeR] <;> omega) | fail)) only [↓preR, postR, ↓w_stop, Nat.reduceEqDiff, Nat.reduceAdd, Nat.reduceSub, Nat.reduceMul, Int.reduceNeg, Nat.reduceLT, Int.reduceToNat, Nat.reduceLeDiff, Nat.sub_zero, h.obj])
            exact tl (e1 rfl).1 (e1 rfl).2
          | false =>
            obtain ⟨q1, q2, q3⟩ := e2 rfl
            (try simp (maxSteps := 1000000) (dsimp := false) (disch := (first | omega | (simp only [okR]; done) | (simp only [sizeR] <;> omega) | fail)) only [↓preR, postR, ↓w_stop, Nat.reduceEqDiff, Nat.reduceAdd, Nat.reduceSub, Nat.reduceMul, Int.reduceNeg, Nat.reduceLT, Int.reduceToNat, Nat.reduceLeDiff, Nat.sub_zero, h.obj])
            refine tl (fun _ => ?_) (fun n hn => by rw [q1] at hn; cases hn)
            rw [q3, List.drop_of_length_le (by omega), q2]
            rfl
        cases dn with
        | true =>
          have tl := tail3 v1 hv1 (e1 rfl).1 (e1 rfl).2
          (try simp (maxSteps := 1000000) (dsimp := false) (disch := (first | omega | (simp only [okR]; done) | (simp only [sizeR] <;> omega) | fail)) only [↓preR, postR, ↓w_stop, Nat.reduceEqDiff, Nat.reduceAdd, Nat.reduceSub, Nat.reduceMul, Int.reduceNeg, Nat.reduceLT, Int.reduceToNat, Nat.reduceLeDiff, Nat.sub_zero, h.obj])
          exact tl
        | false =>
          obtain ⟨q1, q2, q3⟩ := e2 rfl
          rw [find_ j hlt] at q3
          (try simp (maxSteps := 1000000) (dsimp := false) (disch := (first | omega | (simp only [okR]; done) | (simp only [sizeR] <;> omega) | fail)) only [↓preR, postR, ↓w_stop, Nat.reduceEqDiff, Nat.reduceAdd, Nat.reduceSub, Nat.reduceMul, Int.reduceNeg, Nat.reduceLT, Int.reduceToNat, Nat.reduceLeDiff, Nat.sub_zero, h.obj])
          refine hJ5 _ _ ?_
          clear hJ5
          obtain ⟨rfl, c0, c1, m0, m1⟩ := hvat j hlt
          have g0 := h.ldx c0
          have g1 := h.ldx c1
          have hvl := hV.l _ (List.getElem_mem hlt)
          generalize vars[j] = pr at g0 g1 q3 hvl
          (try simp (maxSteps := 1000000) (dsimp := false) (disch := (first | omega | (simp only [okR]; done) | (simp only [sizeR] <;> omega) | fail)) only [↓preR, postR, ↓w_stop, Nat.reduceEqDiff, Nat.reduceAdd, Nat.reduceSub, Nat.reduceMul, Int.reduceNeg, Nat.reduceLT, Int.reduceToNat, Nat.reduceLeDiff, Nat.sub_zero])
          refine join_by fun J6 hJ6 => ?_
          have nx : ∀ (v2 : Str) (d2 : Bool), v2.length ≤ 1000000 → (d2 = true → (lookS st.sets w = none → v2 = ((vars.find? fun p => decide (p.1 = w)).map (·.2)).getD []) ∧ (∀ n, lookS st.sets w = some n → v2 = itoa n)) → (d2 = false → lookS st.sets w = none ∧ v2 = [] ∧ vars.find? (fun p => decide (p.1 = w)) = (vars.drop (j + 1)).find? (fun p => decide (p.1 = w))) → J6 [.string (bs v2), .bool d2] σ := by
            intro v2 d2 hv2 f1 f2
            refine hJ6 _ _ ?_
            (try simp (maxSteps := 1000000) (dsimp := false) (disch := (first | omega | (simp only [okR]; done) | (simp only [sizeR] <;> omega) | fail)) only [↓preR, postR, ↓w_stop, Nat.reduceEqDiff, Nat.reduceAdd, Nat.reduceSub, Nat.reduceMul, Int.reduceNeg, Nat.reduceLT, Int.reduceToNat, Nat.reduceLeDiff, Nat.sub_zero])
            exact hag _ _ _ ⟨j + 1, v2, d2, rfl, rfl, hlt, hv2, f1, f2, rfl⟩ (by omega)
          clear hJ6
          by_cases hq : pr.1 = w
          · rw [if_pos hq] at q3
            have nx := nx pr.2 true hvl (fun _ => ⟨fun _ => by rw [q3]; rfl, fun n hn => by rw [q1] at hn; cases hn⟩) (fun h => by cases h)
            (try simp (maxSteps := 1000000) (dsimp := false) (disch := (first | omega | (simp only [okR]; done) | (simp only [sizeR] <;> omega) | fail)) only [↓preR, postR, ↓w_stop, Nat.reduceEqDiff, Nat.reduceAdd, Nat.reduceSub, Nat.reduceMul, Int.reduceNeg, Nat.reduceLT, Int.reduceToNat, Nat.reduceLeDiff, Nat.sub_zero, h.obj, g0, g1, hq])
            exact nx
          · rw [if_neg hq] at q3
            have nx := nx v1 false hv1 (fun h => by cases h) (fun _ => ⟨q1, q2, q3⟩)
            (try simp (maxSteps := 1000000) (dsimp := false) (disch := (first | omega | (simp only [okR]; done) | (simp only [sizeR] <;> omega) | fail)) only [↓preR, postR, ↓w_stop, Nat.reduceEqDiff, Nat.reduceAdd, Nat.reduceSub, Nat.reduceMul, Int.reduceNeg, Nat.reduceLT, Int.reduceToNat, Nat.reduceLeDiff, Nat.sub_zero, h.obj, g0, g1, hq])
            exact nx
      clear hJ2 ans
      (try simp (maxSteps := 1000000) (dsimp := false) (disch := (first | omega | (simp only [okR]; done) | (simp only [sizeR] <;> omega) | fail)) only [↓preR, postR, ↓w_stop, Nat.reduceEqDiff, Nat.reduceAdd, Nat.reduceSub, Nat.reduceMul, Int.reduceNeg, Nat.reduceLT, Int.reduceToNat, Nat.reduceLeDiff, Nat.sub_zero, h.obj])
      refine loop_inv (fun nn xs s1 => ∃ (j : Nat) (v1 : Str) (dn : Bool), xs = [.string (bs v1), .bool dn, .int .i64 ((j : Int) - 1)] ∧ σ = s1 ∧ j ≤ st.sets.length ∧ v1.length ≤ 1000000 ∧
          (dn = true → ∃ n, lookS st.sets w = some n ∧ v1 = itoa n) ∧ (dn = false → v1 = [] ∧ lookS st.sets w = lookS (st.sets.take j) w) ∧ j = nn) _ ⟨st.sets.length, [], false, by rw [hlen], rfl, Nat.le_refl _, by simp, (fun h => by cases h), fun _ => ⟨rfl, by rw [List.take_of_length_le (Nat.le_refl _)]⟩, rfl⟩ ?_
      rintro _ _ s1 again ⟨j, v1, dn, rfl, rfl, hj, hv1, e1, e2, rfl⟩ hag
      (try simp (maxSteps := 1000000) (dsimp := false) (disch := (first | omega | (simp only [okR]; done) | (simp only [sizeR] <;> omega) | fail)) only [↓preR, postR, ↓w_stop, Nat.reduceEqDiff, Nat.reduceAdd, Nat.reduceSub, Nat.reduceMul, Int.reduceNeg, Nat.reduceLT, Int.reduceToNat, Nat.reduceLeDiff, Nat.sub_zero])
      refine join_by fun J8 hJ8 => ?_
      cases dn with
      | true =>
        have tl := tail2 v1 true hv1 (fun _ => e1 rfl) (fun h => by cases h)
        by_cases hj0 : 0 ≤ (j : Int) - 1
        · (try simp (maxSteps := 1000000) (dsimp := false) (disch := (first | omega | (simp only [okR]; done) | (simp only [sizeR] <;> omega) | fail)) only [↓preR, postR, ↓w_stop, Nat.reduceEqDiff, Nat.reduceAdd, Nat.reduceSub, Nat.reduceMul, Int.reduceNeg, Nat.reduceLT, Int.reduceToNat, Nat.reduceLeDiff, Nat.sub_zero, hj0])
          exact tl
        · (try simp (maxSteps := 1000000) (dsimp := false) (disch := (first | omega | (simp only [okR]; done) | (simp only [sizeR] <;> omega) | fail)) only [↓preR, postR, ↓w_stop, Nat.reduceEqDiff, Nat.reduceAdd, Nat.reduceSub, Nat.reduceMul, Int.reduceNeg, Nat.reduceLT, Int.reduceToNat, Nat.reduceLeDiff, Nat.sub_zero, hj0])
          exact tl
      | false =>
        obtain ⟨q1, q2⟩ := e2 rfl
        by_cases hj0 : j = 0
        · subst hj0
          have tl := tail2 v1 false hv1 (fun h => by cases h) (fun _ => ⟨by rw [q2]; rfl, q1⟩)
          (try simp (maxSteps := 1000000) (dsimp := false) (disch := (first | omega | (simp only [okR]; done) | (simp only [sizeR] <;> omega) | fail)) only [↓preR, postR, ↓w_stop, Nat.reduceEqDiff, Nat.reduceAdd, Nat.reduceSub, Nat.reduceMul, Int.reduceNeg, Nat.reduceLT, Int.reduceToNat, Nat.reduceLeDiff, Nat.sub_zero])
          exact tl
        obtain ⟨i, rfl⟩ : ∃ i, j = i + 1 := ⟨j - 1, by omega⟩
        have hlt : i < st.sets.length := by omega
        have hlt' : i < (setsT st).length := by omega
        have ej : (((i + 1 : Nat) : Int) - 1) = (i : Int) := by omega
        have hnn : 0 ≤ (i : Int) := by omega
        rw [List.take_succ_eq_append_getElem hlt, lookS_snoc] at q2
        obtain ⟨gb, gc, ys, u1, hlc, hcm, hym, y0, y1⟩ := pair_own h.drop hlt'
        injection u1 with u1 _ u2
        subst u1
        subst u2
        unfold maxLen at hcm
        have ep : (setsT st)[i] = (st.sets[i].1, itoa st.sets[i].2) := by simp
        rw [ep] at y0 y1
        have hin := (hI _ (List.getElem_mem hlt)).2
        generalize st.sets[i] = pr at y0 y1 q2 hin
        have hil := itoa_len hin
        (try simp (maxSteps := 1000000) (dsimp := false) (disch := (first | omega | (simp only [okR]; done) | (simp only [sizeR] <;> omega) | fail)) only [↓preR, postR, ↓w_stop, Nat.reduceEqDiff, Nat.reduceAdd, Nat.reduceSub, Nat.reduceMul, Int.reduceNeg, Nat.reduceLT, Int.reduceToNat, Nat.reduceLeDiff, Nat.sub_zero, ej, hnn])
        refine hJ8 _ _ ?_
        clear hJ8
        (try simp (maxSteps := 1000000) (dsimp := false) (disch := (first | omega | (simp only [okR]; done) | (simp only [sizeR] <;> omega) | fail)) only [↓preR, postR, ↓w_stop, Nat.reduceEqDiff, Nat.reduceAdd, Nat.reduceSub, Nat.reduceMul, Int.reduceNeg, Nat.reduceLT, Int.reduceToNat, Nat.reduceLeDiff, Nat.sub_zero])
        refine join_by fun J9 hJ9 => ?_
        have nx : ∀ (v2 : Str) (d2 : Bool), v2.length ≤ 1000000 → (d2 = true → ∃ n, lookS st.sets w = some n ∧ v2 = itoa n) → (d2 = false → v2 = [] ∧ lookS st.sets w = lookS (st.sets.take i) w) → J9 [.string (bs v2), .bool d2] σ := by
          intro v2 d2 hv2 f1 f2
          refine hJ9 _ _ ?_
          (try simp (maxSteps := 1000000) (dsimp := false) (disch := (first | omega | (simp only [okR]; done) | (simp only [sizeR] <;> omega) | fail)) only [↓preR, postR, ↓w_stop, Nat.reduceEqDiff, Nat.reduceAdd, Nat.reduceSub, Nat.reduceMul, Int.reduceNeg, Nat.reduceLT, Int.reduceToNat, Nat.reduceLeDiff, Nat.sub_zero])
          exact hag _ _ _ ⟨i, v2, d2, by rw [ej], rfl, by omega, hv2, f1, f2, rfl⟩ (by omega)
        clear hJ9
        by_cases hq : pr.1 = w
        · rw [if_pos hq] at q2
          have nx := nx (itoa pr.2) true (by omega) (fun _ => ⟨_, q2, rfl⟩) (fun h => by cases h)
          (try simp (maxSteps := 1000000) (dsimp := false) (disch := (first | omega | (simp only [okR]; done) | (simp only [sizeR] <;> omega) | fail)) only [↓preR, postR, ↓w_stop, Nat.reduceEqDiff, Nat.reduceAdd, Nat.reduceSub, Nat.reduceMul, Int.reduceNeg, Nat.reduceLT, Int.reduceToNat, Nat.reduceLeDiff, Nat.sub_zero, h.obj, ej, hym, y0, y1, hq])
          exact nx
        · rw [if_neg hq] at q2
          have nx := nx v1 false hv1 (fun h => by cases h) (fun _ => ⟨q1, q2⟩)
          (try simp (maxSteps := 1000000) (dsimp := false) (disch := (first | omega | (simp only [okR]; done) | (simp only [sizeR] <;> omega) | fail)) only [↓preR, postR, ↓w_stop, Nat.reduceEqDiff, Nat.reduceAdd, Nat.reduceSub, Nat.reduceMul, Int.reduceNeg, Nat.reduceLT, Int.reduceToNat, Nat.reduceLeDiff, Nat.sub_zero, h.obj, ej, hym, y0, y1, hq])
          exact nx
end
end Go.Proofs.YtkbpbagjbjkpmaaGreatDoor

/- Arithmetic, as the document's answer works it out: the operator that stands here. Conditions: as each theorem says. -/
namespace Go.Proofs.YtkbpbagjbjkpmaaGreatDoor
open E Go.Lib
open Rp
set_option linter.unusedVariables false
set_option linter.unusedSimpArgs false
set_option maxHeartbeats 1000000
set_option maxRecDepth 20000

def nxP (a c : UInt8) : Str := if rankOf [a, c] ≠ 0 ∨ asgn [a, c] = true then [a, c] else [a]
def opT (o : Str) : Str := if rankOf o = 0 then [] else o
theorem rank_zero2 (a : UInt8) : rankOf [a, 0] = 0 ∧ asgn [a, 0] = false := ⟨by unfold rankOf; split <;> simp_all, by unfold asgn; split <;> simp_all⟩
theorem nextP_nx (l : Str) : rankOf (nextP l) = rankOf (nxP ((l[0]?).getD 0) ((l[1]?).getD 0)) ∧ opT (nextP l) = opT (nxP ((l[0]?).getD 0) ((l[1]?).getD 0)) := by
  match l with
  | [] => exact ⟨by decide, by decide⟩
  | [a] =>
    have e : nxP a 0 = [a] := by
      unfold nxP
      rw [if_neg]
      rintro (h | h)
      · exact h (rank_zero2 a).1
      · rw [(rank_zero2 a).2] at h; cases h
    show rankOf [a] = rankOf (nxP a 0) ∧ opT [a] = opT (nxP a 0)
    rw [e]
    exact ⟨rfl, rfl⟩
  | a :: b :: t => exact ⟨rfl, rfl⟩
theorem rank_other {a : UInt8} (h : a ∉ ([124, 38, 94, 61, 33, 60, 62, 43, 45, 42, 47, 37] : Str)) (c : UInt8) : rankOf (nxP a c) = 0 := by
  simp only [List.mem_cons, List.not_mem_nil, or_false, not_or] at h
  obtain ⟨n124, n38, n94, n61, n33, n60, n62, n43, n45, n42, n47, n37⟩ := h
  have h1 : rankOf [a] = 0 := by unfold rankOf; split <;> simp_all
  have h2 : rankOf [a, c] = 0 := by unfold rankOf; split <;> simp_all
  unfold nxP
  split
  · exact h2
  · exact h1
theorem nx_124 {c : UInt8} (n124 : ¬ c = 124) : nxP 124 c = [124] := by
  have h1 : rankOf [124, c] = 0 := by unfold rankOf; split <;> simp_all
  have h2 : asgn [124, c] = false := by unfold asgn; split <;> simp_all
  unfold nxP
  rw [if_neg]
  rintro (h | h)
  · exact h h1
  · rw [h2] at h; cases h
theorem nx_38 {c : UInt8} (n38 : ¬ c = 38) : nxP 38 c = [38] := by
  have h1 : rankOf [38, c] = 0 := by unfold rankOf; split <;> simp_all
  have h2 : asgn [38, c] = false := by unfold asgn; split <;> simp_all
  unfold nxP
  rw [if_neg]
  rintro (h | h)
  · exact h h1
  · rw [h2] at h; cases h
theorem nx_94 {c : UInt8} : nxP 94 c = [94] := by
  have h1 : rankOf [94, c] = 0 := by unfold rankOf; split <;> simp_all
  have h2 : asgn [94, c] = false := by unfold asgn; split <;> simp_all
  unfold nxP
  rw [if_neg]
  rintro (h | h)
  · exact h h1
  · rw [h2] at h; cases h
theorem nx_61 {c : UInt8} (n61 : ¬ c = 61) : nxP 61 c = [61] := by
  have h1 : rankOf [61, c] = 0 := by unfold rankOf; split <;> simp_all
  have h2 : asgn [61, c] = false := by unfold asgn; split <;> simp_all
  unfold nxP
  rw [if_neg]
  rintro (h | h)
  · exact h h1
  · rw [h2] at h; cases h
theorem nx_33 {c : UInt8} (n61 : ¬ c = 61) : nxP 33 c = [33] := by
  have h1 : rankOf [33, c] = 0 := by unfold rankOf; split <;> simp_all
  have h2 : asgn [33, c] = false := by unfold asgn; split <;> simp_all
  unfold nxP
  rw [if_neg]
  rintro (h | h)
  · exact h h1
  · rw [h2] at h; cases h
theorem nx_60 {c : UInt8} (n60 : ¬ c = 60) (n61 : ¬ c = 61) : nxP 60 c = [60] := by
  have h1 : rankOf [60, c] = 0 := by unfold rankOf; split <;> simp_all
  have h2 : asgn [60, c] = false := by unfold asgn; split <;> simp_all
  unfold nxP
  rw [if_neg]
  rintro (h | h)
  · exact h h1
  · rw [h2] at h; cases h
theorem nx_62 {c : UInt8} (n62 : ¬ c = 62) (n61 : ¬ c = 61) : nxP 62 c = [62] := by
  have h1 : rankOf [62, c] = 0 := by unfold rankOf; split <;> simp_all
  have h2 : asgn [62, c] = false := by unfold asgn; split <;> simp_all
  unfold nxP
  rw [if_neg]
  rintro (h | h)
  · exact h h1
  · rw [h2] at h; cases h
theorem nx_43 {c : UInt8} (n61 : ¬ c = 61) : nxP 43 c = [43] := by
  have h1 : rankOf [43, c] = 0 := by unfold rankOf; split <;> simp_all
  have h2 : asgn [43, c] = false := by unfold asgn; split <;> simp_all
  unfold nxP
  rw [if_neg]
  rintro (h | h)
  · exact h h1
  · rw [h2] at h; cases h
theorem nx_45 {c : UInt8} (n61 : ¬ c = 61) : nxP 45 c = [45] := by
  have h1 : rankOf [45, c] = 0 := by unfold rankOf; split <;> simp_all
  have h2 : asgn [45, c] = false := by unfold asgn; split <;> simp_all
  unfold nxP
  rw [if_neg]
  rintro (h | h)
  · exact h h1
  · rw [h2] at h; cases h
theorem nx_42 {c : UInt8} (n61 : ¬ c = 61) : nxP 42 c = [42] := by
  have h1 : rankOf [42, c] = 0 := by unfold rankOf; split <;> simp_all
  have h2 : asgn [42, c] = false := by unfold asgn; split <;> simp_all
  unfold nxP
  rw [if_neg]
  rintro (h | h)
  · exact h h1
  · rw [h2] at h; cases h
theorem nx_47 {c : UInt8} (n61 : ¬ c = 61) : nxP 47 c = [47] := by
  have h1 : rankOf [47, c] = 0 := by unfold rankOf; split <;> simp_all
  have h2 : asgn [47, c] = false := by unfold asgn; split <;> simp_all
  unfold nxP
  rw [if_neg]
  rintro (h | h)
  · exact h h1
  · rw [h2] at h; cases h
theorem nx_37 {c : UInt8} (n61 : ¬ c = 61) : nxP 37 c = [37] := by
  have h1 : rankOf [37, c] = 0 := by unfold rankOf; split <;> simp_all
  have h2 : asgn [37, c] = false := by unfold asgn; split <;> simp_all
  unfold nxP
  rw [if_neg]
  rintro (h | h)
  · exact h h1
  · rw [h2] at h; cases h
section
variable {σ σ' : AS} {X : Ce} {R : List Ck} {k : Value → AS → Prop} {s w S : Str} {p m : Nat} {vv u : Value} {st : ASt} {b : Bool} {c : UInt8}
theorem op_c (hS : S.length ≤ 1000000) (hf : Suf S st.left) (h : Hs σ X (WoR p S vv u st b R))
    (hk : ∀ σ', Hs σ' X (WoR p S vv u st.skip b R) → k (.tuple #[.string (bs (opT (nextP st.skip.left))), .int .i64 (rankOf (nextP st.skip.left))]) σ') : kCall Tryz.prog 106 [pvw p] σ k := by
  refine f106 ?_
  (try simp (maxSteps := 1000000) (dsimp := false) (disch := (first | omega | (simp only [okR]; done) | (simp only [sizeR] <;> omega) | fail)) only [↓preR, postR, ↓w_stop, Nat.reduceEqDiff, Nat.reduceAdd, Nat.reduceSub, Nat.reduceMul, Int.reduceNeg, Nat.reduceLT, Int.reduceToNat, Nat.reduceLeDiff, Nat.sub_zero, F106])
  refine rskip_c hS hf h fun w0 s1 h1 => ?_
  have hf1 : Suf S st.skip.left := hf.skip
  have hk1 := hk s1 h1
  clear hk h hf
  have hl := hf1.len
  generalize st.skip = st1 at h1 hk1 hf1 hl
  obtain ⟨q1, q2⟩ := nextP_nx st1.left
  rw [q1, q2] at hk1
  clear q1 q2
  have gp : S[posS S st1.left]? = st1.left[0]? := hf1.get 0
  have gp1 : S[posS S st1.left + 1]? = st1.left[1]? := hf1.get 1
  have hps : posS S st1.left ≤ S.length := Nat.sub_le _ _
  have o1 := h1.obj
  have e1 : ((posS S st1.left : Nat) : Int) + 1 = ((posS S st1.left + 1 : Nat) : Int) := by omega
  (try simp (maxSteps := 1000000) (dsimp := false) (disch := (first | omega | (simp only [okR]; done) | (simp only [sizeR] <;> omega) | fail)) only [↓preR, postR, ↓w_stop, Nat.reduceEqDiff, Nat.reduceAdd, Nat.reduceSub, Nat.reduceMul, Int.reduceNeg, Nat.reduceLT, Int.reduceToNat, Nat.reduceLeDiff, Nat.sub_zero, o1])
  refine sign_c (posS S st1.left) (by omega) h1 hS ?_
  (try simp (maxSteps := 1000000) (dsimp := false) (disch := (first | omega | (simp only [okR]; done) | (simp only [sizeR] <;> omega) | fail)) only [↓preR, postR, ↓w_stop, Nat.reduceEqDiff, Nat.reduceAdd, Nat.reduceSub, Nat.reduceMul, Int.reduceNeg, Nat.reduceLT, Int.reduceToNat, Nat.reduceLeDiff, Nat.sub_zero, o1, e1])
  refine sign_c (posS S st1.left + 1) (by omega) h1 hS ?_
  rw [gp, gp1]
  have one : ∀ x : UInt8, ¬ x = 0 → ((st1.left[0]?).getD 0) = x → (S.drop (posS S st1.left)).take 1 = [x] ∧ posS S st1.left + 1 ≤ S.length := by
    intro x hx hh
    have e2 := hf1.eq
    show (S.drop (S.length - st1.left.length)).take 1 = [x] ∧ _
    rw [e2]
    cases hlf : st1.left with
    | nil => rw [hlf] at hh; exact absurd hh.symm hx
    | cons d t =>
      rw [hlf] at hh hl
      have : d = x := hh
      subst this
      refine ⟨rfl, ?_⟩
      unfold posS
      simp only [List.length_cons] at hl ⊢
      omega
  generalize (st1.left[0]?).getD 0 = a at hk1 one ⊢
  generalize (st1.left[1]?).getD 0 = d at hk1 ⊢
  (try simp (maxSteps := 1000000) (dsimp := false) (disch := (first | omega | (simp only [okR]; done) | (simp only [sizeR] <;> omega) | fail)) only [↓preR, postR, ↓w_stop, Nat.reduceEqDiff, Nat.reduceAdd, Nat.reduceSub, Nat.reduceMul, Int.reduceNeg, Nat.reduceLT, Int.reduceToNat, Nat.reduceLeDiff, Nat.sub_zero])
  refine join_by fun J1 hJ1 => ?_
  have none_ : rankOf (nxP a d) = 0 → J1 [] s1 := by
    intro h0
    refine hJ1 _ _ ?_
    unfold opT at hk1
    rw [h0] at hk1
    (try simp (maxSteps := 1000000) (dsimp := false) (disch := (first | omega | (simp only [okR]; done) | (simp only [sizeR] <;> omega) | fail)) only [↓preR, postR, ↓w_stop, Nat.reduceEqDiff, Nat.reduceAdd, Nat.reduceSub, Nat.reduceMul, Int.reduceNeg, Nat.reduceLT, Int.reduceToNat, Nat.reduceLeDiff, Nat.sub_zero])
    exact hk1
  clear hJ1
  have nq : ∀ (x y : UInt8), ¬ x = y → ¬ (x.toNat : Int) = (y.toNat : Int) := fun x y hd e => hd (UInt8.toNat_inj.1 (by omega))
  by_cases a124 : a = 124
  · have b124 : (a.toNat : Int) = 124 := by rw [a124]; rfl
    by_cases d124 : d = 124
    · have m124 : (d.toNat : Int) = 124 := by rw [d124]; rfl
      have e9 : nxP a d = [124, 124] := by rw [a124, d124]; decide
      rw [e9] at hk1
      (try simp (maxSteps := 1000000) (dsimp := false) (disch := (first | omega | (simp only [okR]; done) | (simp only [sizeR] <;> omega) | fail)) only [↓preR, postR, ↓w_stop, Nat.reduceEqDiff, Nat.reduceAdd, Nat.reduceSub, Nat.reduceMul, Int.reduceNeg, Nat.reduceLT, Int.reduceToNat, Nat.reduceLeDiff, Nat.sub_zero, b124, m124])
      iterate 4 (first | (refine join_now ?_; (try simp (maxSteps := 1000000) (dsimp := false) (disch := (first | omega | (simp only [okR]; done) | (simp only [sizeR] <;> omega) | fail)) only [↓preR, postR, ↓w_stop, Nat.reduceEqDiff, Nat.reduceAdd, Nat.reduceSub, Nat.reduceMul, Int.reduceNeg, Nat.reduceLT, Int.reduceToNat, Nat.reduceLeDiff, Nat.sub_zero, b124, m124])) | skip)
      exact hk1
    have m124 : ¬ (d.toNat : Int) = 124 := nq d 124 d124
    have e9 : nxP a d = [124] := by rw [a124]; exact nx_124 d124
    rw [e9] at hk1
    (try simp (maxSteps := 1000000) (dsimp := false) (disch := (first | omega | (simp only [okR]; done) | (simp only [sizeR] <;> omega) | fail)) only [↓preR, postR, ↓w_stop, Nat.reduceEqDiff, Nat.reduceAdd, Nat.reduceSub, Nat.reduceMul, Int.reduceNeg, Nat.reduceLT, Int.reduceToNat, Nat.reduceLeDiff, Nat.sub_zero, b124, m124])
    iterate 4 (first | (refine join_now ?_; (try simp (maxSteps := 1000000) (dsimp := false) (disch := (first | omega | (simp only [okR]; done) | (simp only [sizeR] <;> omega) | fail)) only [↓preR, postR, ↓w_stop, Nat.reduceEqDiff, Nat.reduceAdd, Nat.reduceSub, Nat.reduceMul, Int.reduceNeg, Nat.reduceLT, Int.reduceToNat, Nat.reduceLeDiff, Nat.sub_zero, b124, m124])) | skip)
    exact hk1
  have b124 : ¬ (a.toNat : Int) = 124 := nq a 124 a124
  by_cases a38 : a = 38
  · have b38 : (a.toNat : Int) = 38 := by rw [a38]; rfl
    by_cases d38 : d = 38
    · have m38 : (d.toNat : Int) = 38 := by rw [d38]; rfl
      have e9 : nxP a d = [38, 38] := by rw [a38, d38]; decide
      rw [e9] at hk1
      (try simp (maxSteps := 1000000) (dsimp := false) (disch := (first | omega | (simp only [okR]; done) | (simp only [sizeR] <;> omega) | fail)) only [↓preR, postR, ↓w_stop, Nat.reduceEqDiff, Nat.reduceAdd, Nat.reduceSub, Nat.reduceMul, Int.reduceNeg, Nat.reduceLT, Int.reduceToNat, Nat.reduceLeDiff, Nat.sub_zero, b124, b38, m38])
      iterate 4 (first | (refine join_now ?_; (try simp (maxSteps := 1000000) (dsimp := false) (disch := (first | omega | (simp only [okR]; done) | (simp only [sizeR] <;> omega) | fail)) only [↓preR, postR, ↓w_stop, Nat.reduceEqDiff, Nat.reduceAdd, Nat.reduceSub, Nat.reduceMul, Int.reduceNeg, Nat.reduceLT, Int.reduceToNat, Nat.reduceLeDiff, Nat.sub_zero, b124, b38, m38])) | skip)
      exact hk1
    have m38 : ¬ (d.toNat : Int) = 38 := nq d 38 d38
    have e9 : nxP a d = [38] := by rw [a38]; exact nx_38 d38
    rw [e9] at hk1
    (try simp (maxSteps := 1000000) (dsimp := false) (disch := (first | omega | (simp only [okR]; done) | (simp only [sizeR] <;> omega) | fail)) only [↓preR, postR, ↓w_stop, Nat.reduceEqDiff, Nat.reduceAdd, Nat.reduceSub, Nat.reduceMul, Int.reduceNeg, Nat.reduceLT, Int.reduceToNat, Nat.reduceLeDiff, Nat.sub_zero, b124, b38, m38])
    iterate 4 (first | (refine join_now ?_; (try simp (maxSteps := 1000000) (dsimp := false) (disch := (first | omega | (simp only [okR]; done) | (simp only [sizeR] <;> omega) | fail)) only [↓preR, postR, ↓w_stop, Nat.reduceEqDiff, Nat.reduceAdd, Nat.reduceSub, Nat.reduceMul, Int.reduceNeg, Nat.reduceLT, Int.reduceToNat, Nat.reduceLeDiff, Nat.sub_zero, b124, b38, m38])) | skip)
    exact hk1
  have b38 : ¬ (a.toNat : Int) = 38 := nq a 38 a38
  by_cases a94 : a = 94
  · have b94 : (a.toNat : Int) = 94 := by rw [a94]; rfl
    have e9 : nxP a d = [94] := by rw [a94]; exact nx_94 
    rw [e9] at hk1
    (try simp (maxSteps := 1000000) (dsimp := false) (disch := (first | omega | (simp only [okR]; done) | (simp only [sizeR] <;> omega) | fail)) only [↓preR, postR, ↓w_stop, Nat.reduceEqDiff, Nat.reduceAdd, Nat.reduceSub, Nat.reduceMul, Int.reduceNeg, Nat.reduceLT, Int.reduceToNat, Nat.reduceLeDiff, Nat.sub_zero, b124, b38, b94])
    iterate 4 (first | (refine join_now ?_; (try simp (maxSteps := 1000000) (dsimp := false) (disch := (first | omega | (simp only [okR]; done) | (simp only [sizeR] <;> omega) | fail)) only [↓preR, postR, ↓w_stop, Nat.reduceEqDiff, Nat.reduceAdd, Nat.reduceSub, Nat.reduceMul, Int.reduceNeg, Nat.reduceLT, Int.reduceToNat, Nat.reduceLeDiff, Nat.sub_zero, b124, b38, b94])) | skip)
    exact hk1
  have b94 : ¬ (a.toNat : Int) = 94 := nq a 94 a94
  by_cases a61 : a = 61
  · have b61 : (a.toNat : Int) = 61 := by rw [a61]; rfl
    by_cases d61 : d = 61
    · have m61 : (d.toNat : Int) = 61 := by rw [d61]; rfl
      have e9 : nxP a d = [61, 61] := by rw [a61, d61]; decide
      rw [e9] at hk1
      (try simp (maxSteps := 1000000) (dsimp := false) (disch := (first | omega | (simp only [okR]; done) | (simp only [sizeR] <;> omega) | fail)) only [↓preR, postR, ↓w_stop, Nat.reduceEqDiff, Nat.reduceAdd, Nat.reduceSub, Nat.reduceMul, Int.reduceNeg, Nat.reduceLT, Int.reduceToNat, Nat.reduceLeDiff, Nat.sub_zero, b124, b38, b94, b61, m61])
      iterate 4 (first | (refine join_now ?_; (try simp (maxSteps := 1000000) (dsimp := false) (disch := (first | omega | (simp only [okR]; done) | (simp only [sizeR] <;> omega) | fail)) only [↓preR, postR, ↓w_stop, Nat.reduceEqDiff, Nat.reduceAdd, Nat.reduceSub, Nat.reduceMul, Int.reduceNeg, Nat.reduceLT, Int.reduceToNat, Nat.reduceLeDiff, Nat.sub_zero, b124, b38, b94, b61, m61])) | skip)
      exact hk1
    have m61 : ¬ (d.toNat : Int) = 61 := nq d 61 d61
    have e9 : nxP a d = [61] := by rw [a61]; exact nx_61 d61
    have nn := none_ (by rw [e9]; rfl)
    (try simp (maxSteps := 1000000) (dsimp := false) (disch := (first | omega | (simp only [okR]; done) | (simp only [sizeR] <;> omega) | fail)) only [↓preR, postR, ↓w_stop, Nat.reduceEqDiff, Nat.reduceAdd, Nat.reduceSub, Nat.reduceMul, Int.reduceNeg, Nat.reduceLT, Int.reduceToNat, Nat.reduceLeDiff, Nat.sub_zero, b124, b38, b94, b61, m61])
    iterate 4 (first | (refine join_now ?_; (try simp (maxSteps := 1000000) (dsimp := false) (disch := (first | omega | (simp only [okR]; done) | (simp only [sizeR] <;> omega) | fail)) only [↓preR, postR, ↓w_stop, Nat.reduceEqDiff, Nat.reduceAdd, Nat.reduceSub, Nat.reduceMul, Int.reduceNeg, Nat.reduceLT, Int.reduceToNat, Nat.reduceLeDiff, Nat.sub_zero, b124, b38, b94, b61, m61])) | skip)
    exact nn
  have b61 : ¬ (a.toNat : Int) = 61 := nq a 61 a61
  by_cases a33 : a = 33
  · have b33 : (a.toNat : Int) = 33 := by rw [a33]; rfl
    by_cases d61 : d = 61
    · have m61 : (d.toNat : Int) = 61 := by rw [d61]; rfl
      have e9 : nxP a d = [33, 61] := by rw [a33, d61]; decide
      rw [e9] at hk1
      (try simp (maxSteps := 1000000) (dsimp := false) (disch := (first | omega | (simp only [okR]; done) | (simp only [sizeR] <;> omega) | fail)) only [↓preR, postR, ↓w_stop, Nat.reduceEqDiff, Nat.reduceAdd, Nat.reduceSub, Nat.reduceMul, Int.reduceNeg, Nat.reduceLT, Int.reduceToNat, Nat.reduceLeDiff, Nat.sub_zero, b124, b38, b94, b61, b33, m61])
      iterate 4 (first | (refine join_now ?_; (try simp (maxSteps := 1000000) (dsimp := false) (disch := (first | omega | (simp only [okR]; done) | (simp only [sizeR] <;> omega) | fail)) only [↓preR, postR, ↓w_stop, Nat.reduceEqDiff, Nat.reduceAdd, Nat.reduceSub, Nat.reduceMul, Int.reduceNeg, Nat.reduceLT, Int.reduceToNat, Nat.reduceLeDiff, Nat.sub_zero, b124, b38, b94, b61, b33, m61])) | skip)
      exact hk1
    have m61 : ¬ (d.toNat : Int) = 61 := nq d 61 d61
    have e9 : nxP a d = [33] := by rw [a33]; exact nx_33 d61
    have nn := none_ (by rw [e9]; rfl)
    (try simp (maxSteps := 1000000) (dsimp := false) (disch := (first | omega | (simp only [okR]; done) | (simp only [sizeR] <;> omega) | fail)) only [↓preR, postR, ↓w_stop, Nat.reduceEqDiff, Nat.reduceAdd, Nat.reduceSub, Nat.reduceMul, Int.reduceNeg, Nat.reduceLT, Int.reduceToNat, Nat.reduceLeDiff, Nat.sub_zero, b124, b38, b94, b61, b33, m61])
    iterate 4 (first | (refine join_now ?_; (try simp (maxSteps := 1000000) (dsimp := false) (disch := (first | omega | (simp only [okR]; done) | (simp only [sizeR] <;> omega) | fail)) only [↓preR, postR, ↓w_stop, Nat.reduceEqDiff, Nat.reduceAdd, Nat.reduceSub, Nat.reduceMul, Int.reduceNeg, Nat.reduceLT, Int.reduceToNat, Nat.reduceLeDiff, Nat.sub_zero, b124, b38, b94, b61, b33, m61])) | skip)
    exact nn
  have b33 : ¬ (a.toNat : Int) = 33 := nq a 33 a33
  by_cases a60 : a = 60
  · have b60 : (a.toNat : Int) = 60 := by rw [a60]; rfl
    by_cases d60 : d = 60
    · have m60 : (d.toNat : Int) = 60 := by rw [d60]; rfl
      have e9 : nxP a d = [60, 60] := by rw [a60, d60]; decide
      rw [e9] at hk1
      (try simp (maxSteps := 1000000) (dsimp := false) (disch := (first | omega | (simp only [okR]; done) | (simp only [sizeR] <;> omega) | fail)) only [↓preR, postR, ↓w_stop, Nat.reduceEqDiff, Nat.reduceAdd, Nat.reduceSub, Nat.reduceMul, Int.reduceNeg, Nat.reduceLT, Int.reduceToNat, Nat.reduceLeDiff, Nat.sub_zero, b124, b38, b94, b61, b33, b60, m60])
      iterate 4 (first | (refine join_now ?_; (try simp (maxSteps := 1000000) (dsimp := false) (disch := (first | omega | (simp only [okR]; done) | (simp only [sizeR] <;> omega) | fail)) only [↓preR, postR, ↓w_stop, Nat.reduceEqDiff, Nat.reduceAdd, Nat.reduceSub, Nat.reduceMul, Int.reduceNeg, Nat.reduceLT, Int.reduceToNat, Nat.reduceLeDiff, Nat.sub_zero, b124, b38, b94, b61, b33, b60, m60])) | skip)
      exact hk1
    have m60 : ¬ (d.toNat : Int) = 60 := nq d 60 d60
    by_cases d61 : d = 61
    · have m61 : (d.toNat : Int) = 61 := by rw [d61]; rfl
      have e9 : nxP a d = [60, 61] := by rw [a60, d61]; decide
      rw [e9] at hk1
      (try simp (maxSteps := 1000000) (dsimp := false) (disch := (first | omega | (simp only [okR]; done) | (simp only [sizeR] <;> omega) | fail)) only [↓preR, postR, ↓w_stop, Nat.reduceEqDiff, Nat.reduceAdd, Nat.reduceSub, Nat.reduceMul, Int.reduceNeg, Nat.reduceLT, Int.reduceToNat, Nat.reduceLeDiff, Nat.sub_zero, b124, b38, b94, b61, b33, b60, m60, m61])
      iterate 4 (first | (refine join_now ?_; (try simp (maxSteps := 1000000) (dsimp := false) (disch := (first | omega | (simp only [okR]; done) | (simp only [sizeR] <;> omega) | fail)) only [↓preR, postR, ↓w_stop, Nat.reduceEqDiff, Nat.reduceAdd, Nat.reduceSub, Nat.reduceMul, Int.reduceNeg, Nat.reduceLT, Int.reduceToNat, Nat.reduceLeDiff, Nat.sub_zero, b124, b38, b94, b61, b33, b60, m60, m61])) | skip)
      exact hk1
    have m61 : ¬ (d.toNat : Int) = 61 := nq d 61 d61
    have e9 : nxP a d = [60] := by rw [a60]; exact nx_60 d60 d61
    rw [e9] at hk1
    (try simp (maxSteps := 1000000) (dsimp := false) (disch := (first | omega | (simp only [okR]; done) | (simp only [sizeR] <;> omega) | fail)) only [↓preR, postR, ↓w_stop, Nat.reduceEqDiff, Nat.reduceAdd, Nat.reduceSub, Nat.reduceMul, Int.reduceNeg, Nat.reduceLT, Int.reduceToNat, Nat.reduceLeDiff, Nat.sub_zero, b124, b38, b94, b61, b33, b60, m60, m61])
    iterate 4 (first | (refine join_now ?_; (try simp (maxSteps := 1000000) (dsimp := false) (disch := (first | omega | (simp only [okR]; done) | (simp only [sizeR] <;> omega) | fail)) only [↓preR, postR, ↓w_stop, Nat.reduceEqDiff, Nat.reduceAdd, Nat.reduceSub, Nat.reduceMul, Int.reduceNeg, Nat.reduceLT, Int.reduceToNat, Nat.reduceLeDiff, Nat.sub_zero, b124, b38, b94, b61, b33, b60, m60, m61])) | skip)
    exact hk1
  have b60 : ¬ (a.toNat : Int) = 60 := nq a 60 a60
  by_cases a62 : a = 62
  · have b62 : (a.toNat : Int) = 62 := by rw [a62]; rfl
    by_cases d62 : d = 62
    · have m62 : (d.toNat : Int) = 62 := by rw [d62]; rfl
      have e9 : nxP a d = [62, 62] := by rw [a62, d62]; decide
      rw [e9] at hk1
      (try simp (maxSteps := 1000000) (dsimp := false) (disch := (first | omega | (simp only [okR]; done) | (simp only [sizeR] <;> omega) | fail)) only [↓preR, postR, ↓w_stop, Nat.reduceEqDiff, Nat.reduceAdd, Nat.reduceSub, Nat.reduceMul, Int.reduceNeg, Nat.reduceLT, Int.reduceToNat, Nat.reduceLeDiff, Nat.sub_zero, b124, b38, b94, b61, b33, b60, b62, m62])
      iterate 4 (first | (refine join_now ?_; (try simp (maxSteps := 1000000) (dsimp := false) (disch := (first | omega | (simp only [okR]; done) | (simp only [sizeR] <;> omega) | fail)) only [↓preR, postR, ↓w_stop, Nat.reduceEqDiff, Nat.reduceAdd, Nat.reduceSub, Nat.reduceMul, Int.reduceNeg, Nat.reduceLT, Int.reduceToNat, Nat.reduceLeDiff, Nat.sub_zero, b124, b38, b94, b61, b33, b60, b62, m62])) | skip)
      exact hk1
    have m62 : ¬ (d.toNat : Int) = 62 := nq d 62 d62
    by_cases d61 : d = 61
    · have m61 : (d.toNat : Int) = 61 := by rw [d61]; rfl
      have e9 : nxP a d = [62, 61] := by rw [a62, d61]; decide
      rw [e9] at hk1
      (try simp (maxSteps := 1000000) (dsimp := false) (disch := (first | omega | (simp only [okR]; done) | (simp only [sizeR] <;> omega) | fail)) only [↓preR, postR, ↓w_stop, Nat.reduceEqDiff, Nat.reduceAdd, Nat.reduceSub, Nat.reduceMul, Int.reduceNeg, Nat.reduceLT, Int.reduceToNat, Nat.reduceLeDiff, Nat.sub_zero, b124, b38, b94, b61, b33, b60, b62, m62, m61])
      iterate 4 (first | (refine join_now ?_; (try simp (maxSteps := 1000000) (dsimp := false) (disch := (first | omega | (simp only [okR]; done) | (simp only [sizeR] <;> omega) | fail)) only [↓preR, postR, ↓w_stop, Nat.reduceEqDiff, Nat.reduceAdd, Nat.reduceSub, Nat.reduceMul, Int.reduceNeg, Nat.reduceLT, Int.reduceToNat, Nat.reduceLeDiff, Nat.sub_zero, b124, b38, b94, b61, b33, b60, b62, m62, m61])) | skip)
      exact hk1
    have m61 : ¬ (d.toNat : Int) = 61 := nq d 61 d61
    have e9 : nxP a d = [62] := by rw [a62]; exact nx_62 d62 d61
    rw [e9] at hk1
    (try simp (maxSteps := 1000000) (dsimp := false) (disch := (first | omega | (simp only [okR]; done) | (simp only [sizeR] <;> omega) | fail)) only [↓preR, postR, ↓w_stop, Nat.reduceEqDiff, Nat.reduceAdd, Nat.reduceSub, Nat.reduceMul, Int.reduceNeg, Nat.reduceLT, Int.reduceToNat, Nat.reduceLeDiff, Nat.sub_zero, b124, b38, b94, b61, b33, b60, b62, m62, m61])
    iterate 4 (first | (refine join_now ?_; (try simp (maxSteps := 1000000) (dsimp := false) (disch := (first | omega | (simp only [okR]; done) | (simp only [sizeR] <;> omega) | fail)) only [↓preR, postR, ↓w_stop, Nat.reduceEqDiff, Nat.reduceAdd, Nat.reduceSub, Nat.reduceMul, Int.reduceNeg, Nat.reduceLT, Int.reduceToNat, Nat.reduceLeDiff, Nat.sub_zero, b124, b38, b94, b61, b33, b60, b62, m62, m61])) | skip)
    exact hk1
  have b62 : ¬ (a.toNat : Int) = 62 := nq a 62 a62
  by_cases a43 : a = 43
  · have b43 : (a.toNat : Int) = 43 := by rw [a43]; rfl
    by_cases d61 : d = 61
    · have m61 : (d.toNat : Int) = 61 := by rw [d61]; rfl
      have nn := none_ (by rw [a43, d61]; decide)
      (try simp (maxSteps := 1000000) (dsimp := false) (disch := (first | omega | (simp only [okR]; done) | (simp only [sizeR] <;> omega) | fail)) only [↓preR, postR, ↓w_stop, Nat.reduceEqDiff, Nat.reduceAdd, Nat.reduceSub, Nat.reduceMul, Int.reduceNeg, Nat.reduceLT, Int.reduceToNat, Nat.reduceLeDiff, Nat.sub_zero, b124, b38, b94, b61, b33, b60, b62, b43, m61])
      iterate 4 (first | (refine join_now ?_; (try simp (maxSteps := 1000000) (dsimp := false) (disch := (first | omega | (simp only [okR]; done) | (simp only [sizeR] <;> omega) | fail)) only [↓preR, postR, ↓w_stop, Nat.reduceEqDiff, Nat.reduceAdd, Nat.reduceSub, Nat.reduceMul, Int.reduceNeg, Nat.reduceLT, Int.reduceToNat, Nat.reduceLeDiff, Nat.sub_zero, b124, b38, b94, b61, b33, b60, b62, b43, m61])) | skip)
      exact nn
    have m61 : ¬ (d.toNat : Int) = 61 := nq d 61 d61
    have e9 : nxP a d = [43] := by rw [a43]; exact nx_43 d61
    rw [e9] at hk1
    obtain ⟨t1, t2⟩ := one 43 (by decide) a43
    have t3 : posS S st1.left + 1 - posS S st1.left = 1 := by omega
    (try simp (maxSteps := 1000000) (dsimp := false) (disch := (first | omega | (simp only [okR]; done) | (simp only [sizeR] <;> omega) | fail)) only [↓preR, postR, ↓w_stop, Nat.reduceEqDiff, Nat.reduceAdd, Nat.reduceSub, Nat.reduceMul, Int.reduceNeg, Nat.reduceLT, Int.reduceToNat, Nat.reduceLeDiff, Nat.sub_zero, b124, b38, b94, b61, b33, b60, b62, b43, m61, o1, e1, t1, t3])
    iterate 4 (first | (refine join_now ?_; (try simp (maxSteps := 1000000) (dsimp := false) (disch := (first | omega | (simp only [okR]; done) | (simp only [sizeR] <;> omega) | fail)) only [↓preR, postR, ↓w_stop, Nat.reduceEqDiff, Nat.reduceAdd, Nat.reduceSub, Nat.reduceMul, Int.reduceNeg, Nat.reduceLT, Int.reduceToNat, Nat.reduceLeDiff, Nat.sub_zero, b124, b38, b94, b61, b33, b60, b62, b43, m61, o1, e1, t1, t3])) | skip)
    exact hk1
  have b43 : ¬ (a.toNat : Int) = 43 := nq a 43 a43
  by_cases a45 : a = 45
  · have b45 : (a.toNat : Int) = 45 := by rw [a45]; rfl
    by_cases d61 : d = 61
    · have m61 : (d.toNat : Int) = 61 := by rw [d61]; rfl
      have nn := none_ (by rw [a45, d61]; decide)
      (try simp (maxSteps := 1000000) (dsimp := false) (disch := (first | omega | (simp only [okR]; done) | (simp only [sizeR] <;> omega) | fail)) only [↓preR, postR, ↓w_stop, Nat.reduceEqDiff, Nat.reduceAdd, Nat.reduceSub, Nat.reduceMul, Int.reduceNeg, Nat.reduceLT, Int.reduceToNat, Nat.reduceLeDiff, Nat.sub_zero, b124, b38, b94, b61, b33, b60, b62, b43, b45, m61])
      iterate 4 (first | (refine join_now ?_; (try simp (maxSteps := 1000000) (dsimp := false) (disch := (first | omega | (simp only [okR]; done) | (simp only [sizeR] <;> omega) | fail)) only [↓preR, postR, ↓w_stop, Nat.reduceEqDiff, Nat.reduceAdd, Nat.reduceSub, Nat.reduceMul, Int.reduceNeg, Nat.reduceLT, Int.reduceToNat, Nat.reduceLeDiff, Nat.sub_zero, b124, b38, b94, b61, b33, b60, b62, b43, b45, m61])) | skip)
      exact nn
    have m61 : ¬ (d.toNat : Int) = 61 := nq d 61 d61
    have e9 : nxP a d = [45] := by rw [a45]; exact nx_45 d61
    rw [e9] at hk1
    obtain ⟨t1, t2⟩ := one 45 (by decide) a45
    have t3 : posS S st1.left + 1 - posS S st1.left = 1 := by omega
    (try simp (maxSteps := 1000000) (dsimp := false) (disch := (first | omega | (simp only [okR]; done) | (simp only [sizeR] <;> omega) | fail)) only [↓preR, postR, ↓w_stop, Nat.reduceEqDiff, Nat.reduceAdd, Nat.reduceSub, Nat.reduceMul, Int.reduceNeg, Nat.reduceLT, Int.reduceToNat, Nat.reduceLeDiff, Nat.sub_zero, b124, b38, b94, b61, b33, b60, b62, b43, b45, m61, o1, e1, t1, t3])
    iterate 4 (first | (refine join_now ?_; (try simp (maxSteps := 1000000) (dsimp := false) (disch := (first | omega | (simp only [okR]; done) | (simp only [sizeR] <;> omega) | fail)) only [↓preR, postR, ↓w_stop, Nat.reduceEqDiff, Nat.reduceAdd, Nat.reduceSub, Nat.reduceMul, Int.reduceNeg, Nat.reduceLT, Int.reduceToNat, Nat.reduceLeDiff, Nat.sub_zero, b124, b38, b94, b61, b33, b60, b62, b43, b45, m61, o1, e1, t1, t3])) | skip)
    exact hk1
  have b45 : ¬ (a.toNat : Int) = 45 := nq a 45 a45
  by_cases a42 : a = 42
  · have b42 : (a.toNat : Int) = 42 := by rw [a42]; rfl
    by_cases d61 : d = 61
    · have m61 : (d.toNat : Int) = 61 := by rw [d61]; rfl
      have nn := none_ (by rw [a42, d61]; decide)
      (try simp (maxSteps := 1000000) (dsimp := false) (disch := (first | omega | (simp only [okR]; done) | (simp only [sizeR] <;> omega) | fail)) only [↓preR, postR, ↓w_stop, Nat.reduceEqDiff, Nat.reduceAdd, Nat.reduceSub, Nat.reduceMul, Int.reduceNeg, Nat.reduceLT, Int.reduceToNat, Nat.reduceLeDiff, Nat.sub_zero, b124, b38, b94, b61, b33, b60, b62, b43, b45, b42, m61])
      iterate 4 (first | (refine join_now ?_; (try simp (maxSteps := 1000000) (dsimp := false) (disch := (first | omega | (simp only [okR]; done) | (simp only [sizeR] <;> omega) | fail)) only [↓preR, postR, ↓w_stop, Nat.reduceEqDiff, Nat.reduceAdd, Nat.reduceSub, Nat.reduceMul, Int.reduceNeg, Nat.reduceLT, Int.reduceToNat, Nat.reduceLeDiff, Nat.sub_zero, b124, b38, b94, b61, b33, b60, b62, b43, b45, b42, m61])) | skip)
      exact nn
    have m61 : ¬ (d.toNat : Int) = 61 := nq d 61 d61
    have e9 : nxP a d = [42] := by rw [a42]; exact nx_42 d61
    rw [e9] at hk1
    obtain ⟨t1, t2⟩ := one 42 (by decide) a42
    have t3 : posS S st1.left + 1 - posS S st1.left = 1 := by omega
    (try simp (maxSteps := 1000000) (dsimp := false) (disch := (first | omega | (simp only [okR]; done) | (simp only [sizeR] <;> omega) | fail)) only [↓preR, postR, ↓w_stop, Nat.reduceEqDiff, Nat.reduceAdd, Nat.reduceSub, Nat.reduceMul, Int.reduceNeg, Nat.reduceLT, Int.reduceToNat, Nat.reduceLeDiff, Nat.sub_zero, b124, b38, b94, b61, b33, b60, b62, b43, b45, b42, m61, o1, e1, t1, t3])
    iterate 4 (first | (refine join_now ?_; (try simp (maxSteps := 1000000) (dsimp := false) (disch := (first | omega | (simp only [okR]; done) | (simp only [sizeR] <;> omega) | fail)) only [↓preR, postR, ↓w_stop, Nat.reduceEqDiff, Nat.reduceAdd, Nat.reduceSub, Nat.reduceMul, Int.reduceNeg, Nat.reduceLT, Int.reduceToNat, Nat.reduceLeDiff, Nat.sub_zero, b124, b38, b94, b61, b33, b60, b62, b43, b45, b42, m61, o1, e1, t1, t3])) | skip)
    exact hk1
  have b42 : ¬ (a.toNat : Int) = 42 := nq a 42 a42
  by_cases a47 : a = 47
  · have b47 : (a.toNat : Int) = 47 := by rw [a47]; rfl
    by_cases d61 : d = 61
    · have m61 : (d.toNat : Int) = 61 := by rw [d61]; rfl
      have nn := none_ (by rw [a47, d61]; decide)
      (try simp (maxSteps := 1000000) (dsimp := false) (disch := (first | omega | (simp only [okR]; done) | (simp only [sizeR] <;> omega) | fail)) only [↓preR, postR, ↓w_stop, Nat.reduceEqDiff, Nat.reduceAdd, Nat.reduceSub, Nat.reduceMul, Int.reduceNeg, Nat.reduceLT, Int.reduceToNat, Nat.reduceLeDiff, Nat.sub_zero, b124, b38, b94, b61, b33, b60, b62, b43, b45, b42, b47, m61])
      iterate 4 (first | (refine join_now ?_; (try simp (maxSteps := 1000000) (dsimp := false) (disch := (first | omega | (simp only [okR]; done) | (simp only [sizeR] <;> omega) | fail)) only [↓preR, postR, ↓w_stop, Nat.reduceEqDiff, Nat.reduceAdd, Nat.reduceSub, Nat.reduceMul, Int.reduceNeg, Nat.reduceLT, Int.reduceToNat, Nat.reduceLeDiff, Nat.sub_zero, b124, b38, b94, b61, b33, b60, b62, b43, b45, b42, b47, m61])) | skip)
      exact nn
    have m61 : ¬ (d.toNat : Int) = 61 := nq d 61 d61
    have e9 : nxP a d = [47] := by rw [a47]; exact nx_47 d61
    rw [e9] at hk1
    obtain ⟨t1, t2⟩ := one 47 (by decide) a47
    have t3 : posS S st1.left + 1 - posS S st1.left = 1 := by omega
    (try simp (maxSteps := 1000000) (dsimp := false) (disch := (first | omega | (simp only [okR]; done) | (simp only [sizeR] <;> omega) | fail)) only [↓preR, postR, ↓w_stop, Nat.reduceEqDiff, Nat.reduceAdd, Nat.reduceSub, Nat.reduceMul, Int.reduceNeg, Nat.reduceLT, Int.reduceToNat, Nat.reduceLeDiff, Nat.sub_zero, b124, b38, b94, b61, b33, b60, b62, b43, b45, b42, b47, m61, o1, e1, t1, t3])
    iterate 4 (first | (refine join_now ?_; (try simp (maxSteps := 1000000) (dsimp := false) (disch := (first | omega | (simp only [okR]; done) | (simp only [sizeR] <;> omega) | fail)) only [↓preR, postR, ↓w_stop, Nat.reduceEqDiff, Nat.reduceAdd, Nat.reduceSub, Nat.reduceMul, Int.reduceNeg, Nat.reduceLT, Int.reduceToNat, Nat.reduceLeDiff, Nat.sub_zero, b124, b38, b94, b61, b33, b60, b62, b43, b45, b42, b47, m61, o1, e1, t1, t3])) | skip)
    exact hk1
  have b47 : ¬ (a.toNat : Int) = 47 := nq a 47 a47
  by_cases a37 : a = 37
  · have b37 : (a.toNat : Int) = 37 := by rw [a37]; rfl
    by_cases d61 : d = 61
    · have m61 : (d.toNat : Int) = 61 := by rw [d61]; rfl
      have nn := none_ (by rw [a37, d61]; decide)
      (try simp (maxSteps := 1000000) (dsimp := false) (disch := (first | omega | (simp only [okR]; done) | (simp only [sizeR] <;> omega) | fail)) only [↓preR, postR, ↓w_stop, Nat.reduceEqDiff, Nat.reduceAdd, Nat.reduceSub, Nat.reduceMul, Int.reduceNeg, Nat.reduceLT, Int.reduceToNat, Nat.reduceLeDiff, Nat.sub_zero, b124, b38, b94, b61, b33, b60, b62, b43, b45, b42, b47, b37, m61])
      iterate 4 (first | (refine join_now ?_; (try simp (maxSteps := 1000000) (dsimp := false) (disch := (first | omega | (simp only [okR]; done) | (simp only [sizeR] <;> omega) | fail)) only [↓preR, postR, ↓w_stop, Nat.reduceEqDiff, Nat.reduceAdd, Nat.reduceSub, Nat.reduceMul, Int.reduceNeg, Nat.reduceLT, Int.reduceToNat, Nat.reduceLeDiff, Nat.sub_zero, b124, b38, b94, b61, b33, b60, b62, b43, b45, b42, b47, b37, m61])) | skip)
      exact nn
    have m61 : ¬ (d.toNat : Int) = 61 := nq d 61 d61
    have e9 : nxP a d = [37] := by rw [a37]; exact nx_37 d61
    rw [e9] at hk1
    obtain ⟨t1, t2⟩ := one 37 (by decide) a37
    have t3 : posS S st1.left + 1 - posS S st1.left = 1 := by omega
    (try simp (maxSteps := 1000000) (dsimp := false) (disch := (first | omega | (simp only [okR]; done) | (simp only [sizeR] <;> omega) | fail)) only [↓preR, postR, ↓w_stop, Nat.reduceEqDiff, Nat.reduceAdd, Nat.reduceSub, Nat.reduceMul, Int.reduceNeg, Nat.reduceLT, Int.reduceToNat, Nat.reduceLeDiff, Nat.sub_zero, b124, b38, b94, b61, b33, b60, b62, b43, b45, b42, b47, b37, m61, o1, e1, t1, t3])
    iterate 4 (first | (refine join_now ?_; (try simp (maxSteps := 1000000) (dsimp := false) (disch := (first | omega | (simp only [okR]; done) | (simp only [sizeR] <;> omega) | fail)) only [↓preR, postR, ↓w_stop, Nat.reduceEqDiff, Nat.reduceAdd, Nat.reduceSub, Nat.reduceMul, Int.reduceNeg, Nat.reduceLT, Int.reduceToNat, Nat.reduceLeDiff, Nat.sub_zero, b124, b38, b94, b61, b33, b60, b62, b43, b45, b42, b47, b37, m61, o1, e1, t1, t3])) | skip)
    exact hk1
  have b37 : ¬ (a.toNat : Int) = 37 := nq a 37 a37
  have nn := none_ (rank_other (by simp only [List.mem_cons, List.not_mem_nil, or_false, not_or]; exact ⟨a124, a38, a94, a61, a33, a60, a62, a43, a45, a42, a47, a37⟩) d)
  (try simp (maxSteps := 1000000) (dsimp := false) (disch := (first | omega | (simp only [okR]; done) | (simp only [sizeR] <;> omega) | fail)) only [↓preR, postR, ↓w_stop, Nat.reduceEqDiff, Nat.reduceAdd, Nat.reduceSub, Nat.reduceMul, Int.reduceNeg, Nat.reduceLT, Int.reduceToNat, Nat.reduceLeDiff, Nat.sub_zero, b124, b38, b94, b61, b33, b60, b62, b43, b45, b42, b47, b37])
  iterate 4 (first | (refine join_now ?_; (try simp (maxSteps := 1000000) (dsimp := false) (disch := (first | omega | (simp only [okR]; done) | (simp only [sizeR] <;> omega) | fail)) only [↓preR, postR, ↓w_stop, Nat.reduceEqDiff, Nat.reduceAdd, Nat.reduceSub, Nat.reduceMul, Int.reduceNeg, Nat.reduceLT, Int.reduceToNat, Nat.reduceLeDiff, Nat.sub_zero, b124, b38, b94, b61, b33, b60, b62, b43, b45, b42, b47, b37])) | skip)
  exact nn
end
end Go.Proofs.YtkbpbagjbjkpmaaGreatDoor

/- Arithmetic, as the document's answer works it out: an operand, a choice. Conditions: as each theorem says. -/
namespace Go.Proofs.YtkbpbagjbjkpmaaGreatDoor
open E Go.Lib
open Rp
set_option linter.unusedVariables false
set_option linter.unusedSimpArgs false
set_option maxHeartbeats 1000000
set_option maxRecDepth 20000

section
variable (X : Ce) (p : Nat) (S : Str) (vv : Value) (B : Nat) (look : Str → Int × Int)
/-- A function's contract. -/
def FnR (fn : Nat) (args : List Value) (md : Md) (f : Nat) : Prop := ∀ (σ : AS) (R : List Ck) (k : Value → AS → Prop) (st : ASt) (b : Bool) (u : Value), needs md st.left.length ≤ f → InvS B st → Suf S st.left → Hs σ X (WoR p S vv u st b R) →
  (∀ v st' b' u' σ', After B look f md st b v st' b' → Suf S st'.left → Hs σ' X (WoR p S vv u' st' b' R) → k (.int .i64 v) σ') → kCall Tryz.prog fn (pvw p :: args) σ k
def AllR (f : Nat) : Prop := FnR X p S vv B look 23 [] .set f ∧ FnR X p S vv B look 62 [] .choice f ∧
  (∀ r : Nat, 1 ≤ r → r ≤ 11 → FnR X p S vv B look 88 [.int .i64 r] (.rank r) f) ∧ FnR X p S vv B look 105 [] .opnd f
end
theorem ev_opnd {look : Str → Int × Int} {f : Nat} {st : ASt} {c : UInt8} {t : Str} (hl : st.skip.left = c :: t) : ev look (f + 1) .opnd st =
    if c = 43 ∨ c = 45 ∨ c = 33 ∨ c = 126 then (match ev look f .opnd (st.skip.at t) with | none => none | some (n, s1) => some (signV c n, s1))
    else if c = 40 then (match ev look f .set (st.skip.at t) with | none => none | some (n, s1) => match skipB s1.left with | 41 :: t2 => some (n, s1.at t2) | _ => none)
    else if alphaB c = true then some (askP look (st.skip.at ((c :: t).drop (frontF 0 (c :: t)))) ((c :: t).take (frontF 0 (c :: t))))
    else if digitB c = true then (match numP ((c :: t).take (frontF 1 (c :: t))) with | none => none | some n => if 9223372036854775808 ≤ n then none else some ((n : Int), st.skip.at ((c :: t).drop (frontF 1 (c :: t)))))
    else none := by
  conv => lhs; unfold ev
  simp only [hl]
  split
  · generalize ev look f .opnd _ = e
    cases e with
    | none => rfl
    | some q => rfl
  split
  · generalize ev look f .set _ = e
    cases e with
    | none => rfl
    | some q => rfl
  split
  · rfl
  split
  · generalize numP _ = e
    cases e with
    | none => rfl
    | some q => rfl
  · rfl
theorem ev_opnd_nil {look : Str → Int × Int} {f : Nat} {st : ASt} (hl : st.skip.left = []) : ev look (f + 1) .opnd st = none := by
  conv => lhs; unfold ev
  simp only [hl]
theorem front_pos : ∀ (l : Str) (i : Nat), 0 < i → frontF i l = frontF 1 l
  | [], _, _ => rfl
  | c :: t, i, h => by
    simp only [frontF]
    rw [front_pos t (i + 1) (by omega), front_pos t 2 (by omega), decide_eq_true h, decide_eq_true (show 0 < 1 by omega)]
theorem posS_cons {S t : Str} {c : UInt8} (h : Suf S (c :: t)) : ((posS S (c :: t) : Nat) : Int) + 1 = ((posS S t : Nat) : Int) := by
  have := h.len
  unfold posS
  simp only [List.length_cons] at this ⊢
  omega
theorem posS_drop {S l : Str} (h : Suf S l) {n : Nat} (hn : n ≤ l.length) : ((posS S l : Nat) : Int) + (n : Int) = ((posS S (l.drop n) : Nat) : Int) := by
  have := h.len
  unfold posS
  rw [List.length_drop]
  omega
section
variable {X : Ce} {p : Nat} {S : Str} {vv : Value} {B : Nat} {σ : AS} {k : Value → AS → Prop} {vars : List (Str × Str)}
theorem opndR_c {f : Nat} (hB : B ≤ 1000000) (hSl : S.length ≤ 1000000) (hV : VarsI X vv vars) (hL : LookI (lookV vars)) (ih : AllR X p S vv B (lookV vars) f) : FnR X p S vv B (lookV vars) 105 [] .opnd (f + 1) := by
  intro σ R k st b u hf hI hS h hk
  refine f105 ?_
  have hlB := hI.n
  (try simp (maxSteps := 1000000) (dsimp := false) (disch := (first | omega | (simp only [okR]; done) | (simp only [sizeR] <;> omega) | fail)) only [↓preR, postR, ↓w_stop, Nat.reduceEqDiff, Nat.reduceAdd, Nat.reduceSub, Nat.reduceMul, Int.reduceNeg, Nat.reduceLT, Int.reduceToNat, Nat.reduceLeDiff, Nat.sub_zero, F105])
  refine rskip_c hSl hS h fun w0 s1 h1 => ?_
  have hS1 : Suf S st.skip.left := hS.skip
  have hl1 := hS1.len
  have lq0 : Lq B st st.skip := (Lq.refl hI.s).skip
  have o1 : s1.m p = some (.cells [.string (bs S), .int .i64 (posS S st.skip.left), .int .i64 st.skip.over, .bool b, .int .i64 st.skip.fell, vv, u]) := h1.obj
  have gp : S[posS S st.skip.left]? = st.skip.left[0]? := hS1.get 0
  have hps : posS S st.skip.left ≤ S.length := Nat.sub_le _ _
  (try simp (maxSteps := 1000000) (dsimp := false) (disch := (first | omega | (simp only [okR]; done) | (simp only [sizeR] <;> omega) | fail)) only [↓preR, postR, ↓w_stop, Nat.reduceEqDiff, Nat.reduceAdd, Nat.reduceSub, Nat.reduceMul, Int.reduceNeg, Nat.reduceLT, Int.reduceToNat, Nat.reduceLeDiff, Nat.sub_zero, o1])
  refine sign_c (posS S st.skip.left) (by omega) h1 hSl ?_
  rw [gp]
  (try simp (maxSteps := 1000000) (dsimp := false) (disch := (first | omega | (simp only [okR]; done) | (simp only [sizeR] <;> omega) | fail)) only [↓preR, postR, ↓w_stop, Nat.reduceEqDiff, Nat.reduceAdd, Nat.reduceSub, Nat.reduceMul, Int.reduceNeg, Nat.reduceLT, Int.reduceToNat, Nat.reduceLeDiff, Nat.sub_zero])
  refine join_by fun J1 hJ1 => ?_
  have fail_ : (b = true ∨ st.skip.left = []) → ∀ s2, Hs s2 X (WoR p S vv u st.skip true R) → k (.int .i64 0) s2 := by
    intro hb s2 h2
    refine hk 0 st.skip true u s2 ⟨by unfold inI64; omega, rfl, lq0, fun _ => rfl, fun hbf => ?_⟩ hS1 h2
    rcases hb with hb | hb
    · rw [hb] at hbf; cases hbf
    · rw [ev_opnd_nil hb]
  cases b with
  | true =>
    have h2 : Hs (s1.put p (.cells [.string (bs S), .int .i64 (posS S st.skip.left), .int .i64 st.skip.over, .bool true, .int .i64 st.skip.fell, vv, u])) X (WoR p S vv u st.skip true R) := h1.put
    (try simp (maxSteps := 1000000) (dsimp := false) (disch := (first | omega | (simp only [okR]; done) | (simp only [sizeR] <;> omega) | fail)) only [↓preR, postR, ↓w_stop, Nat.reduceEqDiff, Nat.reduceAdd, Nat.reduceSub, Nat.reduceMul, Int.reduceNeg, Nat.reduceLT, Int.reduceToNat, Nat.reduceLeDiff, Nat.sub_zero, o1])
    exact fail_ (.inl rfl) _ h2
  | false =>
  cases hl : st.skip.left with
  | nil =>
    have hp : ((posS S st.skip.left : Nat) : Int) = (S.length : Int) := by unfold posS; rw [hl]; simp
    have h2 : Hs (s1.put p (.cells [.string (bs S), .int .i64 (posS S st.skip.left), .int .i64 st.skip.over, .bool true, .int .i64 st.skip.fell, vv, u])) X (WoR p S vv u st.skip true R) := h1.put
    rw [hp] at h2
    (try simp (maxSteps := 1000000) (dsimp := false) (disch := (first | omega | (simp only [okR]; done) | (simp only [sizeR] <;> omega) | fail)) only [↓preR, postR, ↓w_stop, Nat.reduceEqDiff, Nat.reduceAdd, Nat.reduceSub, Nat.reduceMul, Int.reduceNeg, Nat.reduceLT, Int.reduceToNat, Nat.reduceLeDiff, Nat.sub_zero, o1, hp])
    exact fail_ (.inr hl) _ h2
  | cons c t =>
    rw [hl] at hS1 hl1 o1 gp hps hJ1
    have hlen : (c :: t).length = t.length + 1 := rfl
    rw [hlen] at hl1
    have hp : ¬ ((posS S (c :: t) : Nat) : Int) = (S.length : Int) := by unfold posS; rw [hlen]; omega
    have hcn : ∀ d : UInt8, ¬ c = d → ¬ (c.toNat : Int) = (d.toNat : Int) := fun d hd e => hd (UInt8.toNat_inj.1 (by omega))
    have ht : t.length + 1 ≤ st.left.length := by
      have := skip_len st.left
      have e : st.skip.left = skipB st.left := rfl
      rw [← e, hl] at this
      exact this
    have lt : Lq B st (st.skip.at t) := lq0.at (by rw [hl]; simp)
    have it : InvS B (st.skip.at t) := lt.inv hI (Nat.le_refl _)
    have hSt : Suf S t := hS1.tail
    have ep := posS_cons hS1
    have hft : needs .opnd t.length ≤ f := by simp only [needs] at hf ⊢; omega
    have hfs : needs .set t.length ≤ f := by simp only [needs] at hf ⊢; omega
    have hpt : ((posS S t : Nat) : Int) ≤ 1000000 := by unfold posS; omega
    (try simp (maxSteps := 1000000) (dsimp := false) (disch := (first | omega | (simp only [okR]; done) | (simp only [sizeR] <;> omega) | fail)) only [↓preR, postR, ↓w_stop, Nat.reduceEqDiff, Nat.reduceAdd, Nat.reduceSub, Nat.reduceMul, Int.reduceNeg, Nat.reduceLT, Int.reduceToNat, Nat.reduceLeDiff, Nat.sub_zero, o1, hp])
    refine hJ1 _ _ ?_
    clear hJ1 fail_
    have h3 : Hs (s1.put p (.cells [.string (bs S), .int .i64 (posS S t), .int .i64 st.skip.over, .bool false, .int .i64 st.skip.fell, vv, u])) X (WoR p S vv u (st.skip.at t) false R) := h1.put
    have sign := fun (v : Int) st' b' u' (σ' : AS) (hc : c = 43 ∨ c = 45 ∨ c = 33 ∨ c = 126) (a2 : After B (lookV vars) f .opnd (st.skip.at t) false v st' b') (hs' : Suf S st'.left) (h4 : Hs σ' X (WoR p S vv u' st' b' R)) => hk _ _ _ _ _ (a2.sign hI.s hl hc) hs' h4
    (try simp (maxSteps := 1000000) (dsimp := false) (disch := (first | omega | (simp only [okR]; done) | (simp only [sizeR] <;> omega) | fail)) only [↓preR, postR, ↓w_stop, Nat.reduceEqDiff, Nat.reduceAdd, Nat.reduceSub, Nat.reduceMul, Int.reduceNeg, Nat.reduceLT, Int.reduceToNat, Nat.reduceLeDiff, Nat.sub_zero, Option.getD_some, List.getElem?_cons_zero])
    refine join_by fun J2 hJ2 => ?_
    have sub : ∀ k1 : Value → AS → Prop, (∀ v st' b' u' σ', After B (lookV vars) f .opnd (st.skip.at t) false v st' b' → Suf S st'.left → Hs σ' X (WoR p S vv u' st' b' R) → k1 (.int .i64 v) σ') → kCall Tryz.prog 105 [pvw p] (s1.put p (.cells [.string (bs S), .int .i64 (posS S t), .int .i64 st.skip.over, .bool false, .int .i64 st.skip.fell, vv, u])) k1 :=
      fun k1 hk1 => ih.2.2.2 _ _ _ (st.skip.at t) false u hft it hSt h3 hk1
    by_cases c43 : c = 43
    · have n43 : (c.toNat : Int) = 43 := by rw [c43]; rfl
      (try simp (maxSteps := 1000000) (dsimp := false) (disch := (first | omega | (simp only [okR]; done) | (simp only [sizeR] <;> omega) | fail)) only [↓preR, postR, ↓w_stop, Nat.reduceEqDiff, Nat.reduceAdd, Nat.reduceSub, Nat.reduceMul, Int.reduceNeg, Nat.reduceLT, Int.reduceToNat, Nat.reduceLeDiff, Nat.sub_zero, o1, Option.getD_some, List.getElem?_cons_zero, n43, ep])
      refine sub _ fun v st' b' u' s2 a2 q2 h4 => ?_
      have hs := sign v st' b' u' s2 (.inl c43) a2 q2 h4
      have es : signV c v = v := by subst c43; unfold signV; rw [if_neg (by decide), if_neg (by decide), if_neg (by decide)]
      rw [es] at hs
      (try simp (maxSteps := 1000000) (dsimp := false) (disch := (first | omega | (simp only [okR]; done) | (simp only [sizeR] <;> omega) | fail)) only [↓preR, postR, ↓w_stop, Nat.reduceEqDiff, Nat.reduceAdd, Nat.reduceSub, Nat.reduceMul, Int.reduceNeg, Nat.reduceLT, Int.reduceToNat, Nat.reduceLeDiff, Nat.sub_zero])
      exact hs
    have n43 : ¬ (c.toNat : Int) = 43 := hcn 43 c43
    by_cases c45 : c = 45
    · have n45 : (c.toNat : Int) = 45 := by rw [c45]; rfl
      (try simp (maxSteps := 1000000) (dsimp := false) (disch := (first | omega | (simp only [okR]; done) | (simp only [sizeR] <;> omega) | fail)) only [↓preR, postR, ↓w_stop, Nat.reduceEqDiff, Nat.reduceAdd, Nat.reduceSub, Nat.reduceMul, Int.reduceNeg, Nat.reduceLT, Int.reduceToNat, Nat.reduceLeDiff, Nat.sub_zero, o1, Option.getD_some, List.getElem?_cons_zero, n43, n45, ep])
      refine sub _ fun v st' b' u' s2 a2 q2 h4 => ?_
      have hs := sign v st' b' u' s2 (.inr (.inl c45)) a2 q2 h4
      have es : signV c v = IntKind.i64.wrap (0 - v) := by unfold signV; rw [if_pos c45]; rfl
      rw [es] at hs
      (try simp (maxSteps := 1000000) (dsimp := false) (disch := (first | omega | (simp only [okR]; done) | (simp only [sizeR] <;> omega) | fail)) only [↓preR, postR, ↓w_stop, Nat.reduceEqDiff, Nat.reduceAdd, Nat.reduceSub, Nat.reduceMul, Int.reduceNeg, Nat.reduceLT, Int.reduceToNat, Nat.reduceLeDiff, Nat.sub_zero])
      exact hs
    have n45 : ¬ (c.toNat : Int) = 45 := hcn 45 c45
    by_cases c33 : c = 33
    · have n33 : (c.toNat : Int) = 33 := by rw [c33]; rfl
      (try simp (maxSteps := 1000000) (dsimp := false) (disch := (first | omega | (simp only [okR]; done) | (simp only [sizeR] <;> omega) | fail)) only [↓preR, postR, ↓w_stop, Nat.reduceEqDiff, Nat.reduceAdd, Nat.reduceSub, Nat.reduceMul, Int.reduceNeg, Nat.reduceLT, Int.reduceToNat, Nat.reduceLeDiff, Nat.sub_zero, o1, Option.getD_some, List.getElem?_cons_zero, n43, n45, n33, ep])
      refine sub _ fun v st' b' u' s2 a2 q2 h4 => ?_
      have hs := sign v st' b' u' s2 (.inr (.inr (.inl c33))) a2 q2 h4
      have es : signV c v = truthI (decide (v = 0)) := by unfold signV; rw [if_neg c45, if_pos c33]
      rw [es] at hs
      (try simp (maxSteps := 1000000) (dsimp := false) (disch := (first | omega | (simp only [okR]; done) | (simp only [sizeR] <;> omega) | fail)) only [↓preR, postR, ↓w_stop, Nat.reduceEqDiff, Nat.reduceAdd, Nat.reduceSub, Nat.reduceMul, Int.reduceNeg, Nat.reduceLT, Int.reduceToNat, Nat.reduceLeDiff, Nat.sub_zero])
      refine truth_c ?_
      (try simp (maxSteps := 1000000) (dsimp := false) (disch := (first | omega | (simp only [okR]; done) | (simp only [sizeR] <;> omega) | fail)) only [↓preR, postR, ↓w_stop, Nat.reduceEqDiff, Nat.reduceAdd, Nat.reduceSub, Nat.reduceMul, Int.reduceNeg, Nat.reduceLT, Int.reduceToNat, Nat.reduceLeDiff, Nat.sub_zero])
      exact hs
    have n33 : ¬ (c.toNat : Int) = 33 := hcn 33 c33
    by_cases c126 : c = 126
    · have n126 : (c.toNat : Int) = 126 := by rw [c126]; rfl
      (try simp (maxSteps := 1000000) (dsimp := false) (disch := (first | omega | (simp only [okR]; done) | (simp only [sizeR] <;> omega) | fail)) only [↓preR, postR, ↓w_stop, Nat.reduceEqDiff, Nat.reduceAdd, Nat.reduceSub, Nat.reduceMul, Int.reduceNeg, Nat.reduceLT, Int.reduceToNat, Nat.reduceLeDiff, Nat.sub_zero, o1, Option.getD_some, List.getElem?_cons_zero, n43, n45, n33, n126, ep])
      refine sub _ fun v st' b' u' s2 a2 q2 h4 => ?_
      have hs := sign v st' b' u' s2 (.inr (.inr (.inr c126))) a2 q2 h4
      have es : signV c v = -v - 1 := by unfold signV; rw [if_neg c45, if_neg c33, if_pos c126]
      rw [es] at hs
      have hv := a2.num
      have w1 : IntKind.i64.wrap (IntKind.i64.wrap (0 - v) - 1) = -v - 1 := by
        unfold inI64 at hv
        simp only [IntKind.wrap_i64]
        omega
      (try simp (maxSteps := 1000000) (dsimp := false) (disch := (first | omega | (simp only [okR]; done) | (simp only [sizeR] <;> omega) | fail)) only [↓preR, postR, ↓w_stop, Nat.reduceEqDiff, Nat.reduceAdd, Nat.reduceSub, Nat.reduceMul, Int.reduceNeg, Nat.reduceLT, Int.reduceToNat, Nat.reduceLeDiff, Nat.sub_zero, ↓w1])
      exact hs
    have n126 : ¬ (c.toNat : Int) = 126 := hcn 126 c126
    have csg : ¬ (c = 43 ∨ c = 45 ∨ c = 33 ∨ c = 126) := by rintro (h | h | h | h) <;> contradiction
    by_cases c40 : c = 40
    · have n40 : (c.toNat : Int) = 40 := by rw [c40]; rfl
      (try simp (maxSteps := 1000000) (dsimp := false) (disch := (first | omega | (simp only [okR]; done) | (simp only [sizeR] <;> omega) | fail)) only [↓preR, postR, ↓w_stop, Nat.reduceEqDiff, Nat.reduceAdd, Nat.reduceSub, Nat.reduceMul, Int.reduceNeg, Nat.reduceLT, Int.reduceToNat, Nat.reduceLeDiff, Nat.sub_zero, o1, Option.getD_some, List.getElem?_cons_zero, n43, n45, n33, n126, n40, ep])
      refine ih.1 _ _ _ (st.skip.at t) false u hfs it hSt h3 fun v st' b' u' s2 a2 q2 h4 => ?_
      (try simp (maxSteps := 1000000) (dsimp := false) (disch := (first | omega | (simp only [okR]; done) | (simp only [sizeR] <;> omega) | fail)) only [↓preR, postR, ↓w_stop, Nat.reduceEqDiff, Nat.reduceAdd, Nat.reduceSub, Nat.reduceMul, Int.reduceNeg, Nat.reduceLT, Int.reduceToNat, Nat.reduceLeDiff, Nat.sub_zero])
      refine rskip_c hSl q2 h4 fun w1 s3 h5 => ?_
      have hS5 : Suf S st'.skip.left := q2.skip
      have o5 : s3.m p = some (.cells [.string (bs S), .int .i64 (posS S st'.skip.left), .int .i64 st'.skip.over, .bool b', .int .i64 st'.skip.fell, vv, u']) := h5.obj
      have hev : ∀ q, ev (lookV vars) (f + 1) .opnd st = q → q = (match ev (lookV vars) f .set (st.skip.at t) with
          | none => none
          | some (n, s1) => match skipB s1.left with
            | 41 :: t2 => some (n, s1.at t2)
            | _ => none) := by
        intro q hq
        rw [← hq, ev_opnd hl, if_neg csg, if_pos c40]
      have bad : (b' = true ∨ ∀ t2, ¬ skipB st'.left = 41 :: t2) → ∀ s4, Hs s4 X (WoR p S vv u' st'.skip true R) → k (.int .i64 0) s4 := by
        intro hb s4 h6
        refine hk 0 st'.skip true u' _ ⟨by unfold inI64; omega, a2.over, (lt.trans a2.lq).skip, fun h => (by cases h), fun _ => ?_⟩ hS5 h6
        have a3 := a2.ok rfl
        have e := hev _ rfl
        rw [e]
        cases he : ev (lookV vars) f .set (st.skip.at t) with
        | none => rfl
        | some q =>
          rw [he] at a3
          obtain ⟨n, s2'⟩ := q
          obtain ⟨rfl, rfl, hb'⟩ := a3
          rcases hb with hb | hno
          · rw [hb] at hb'; cases hb'
          · have hm : (match skipB st'.left with | 41 :: t2 => some (v, st'.at t2) | _ => none) = none := by
              split
              · rename_i t2 h; exact absurd h (hno t2)
              · rfl
            simp only [hm]
      (try simp (maxSteps := 1000000) (dsimp := false) (disch := (first | omega | (simp only [okR]; done) | (simp only [sizeR] <;> omega) | fail)) only [↓preR, postR, ↓w_stop, Nat.reduceEqDiff, Nat.reduceAdd, Nat.reduceSub, Nat.reduceMul, Int.reduceNeg, Nat.reduceLT, Int.reduceToNat, Nat.reduceLeDiff, Nat.sub_zero])
      refine join_by fun J8 hJ8 => ?_
      have h6 : Hs (s3.put p (.cells [.string (bs S), .int .i64 (posS S st'.skip.left), .int .i64 st'.skip.over, .bool true, .int .i64 st'.skip.fell, vv, u'])) X (WoR p S vv u' st'.skip true R) := h5.put
      cases b' with
      | true =>
        (try simp (maxSteps := 1000000) (dsimp := false) (disch := (first | omega | (simp only [okR]; done) | (simp only [sizeR] <;> omega) | fail)) only [↓preR, postR, ↓w_stop, Nat.reduceEqDiff, Nat.reduceAdd, Nat.reduceSub, Nat.reduceMul, Int.reduceNeg, Nat.reduceLT, Int.reduceToNat, Nat.reduceLeDiff, Nat.sub_zero, o5])
        exact bad (.inl rfl) _ h6
      | false =>
        have gp5 : S[posS S st'.skip.left]? = st'.skip.left[0]? := hS5.get 0
        have hps5 : posS S st'.skip.left ≤ S.length := Nat.sub_le _ _
        (try simp (maxSteps := 1000000) (dsimp := false) (disch := (first | omega | (simp only [okR]; done) | (simp only [sizeR] <;> omega) | fail)) only [↓preR, postR, ↓w_stop, Nat.reduceEqDiff, Nat.reduceAdd, Nat.reduceSub, Nat.reduceMul, Int.reduceNeg, Nat.reduceLT, Int.reduceToNat, Nat.reduceLeDiff, Nat.sub_zero, o5])
        refine sign_c (posS S st'.skip.left) (by omega) h5 hSl ?_
        rw [gp5]
        by_cases h41 : ∃ t2, skipB st'.left = 41 :: t2
        · obtain ⟨t2, ht2⟩ := h41
          have ht2' : st'.skip.left = 41 :: t2 := ht2
          rw [ht2'] at hS5 o5 ⊢
          have ep5 := posS_cons hS5
          have h7 : Hs (s3.put p (.cells [.string (bs S), .int .i64 (posS S t2), .int .i64 st'.skip.over, .bool false, .int .i64 st'.skip.fell, vv, u'])) X (WoR p S vv u' (st'.skip.at t2) false R) := h5.put
          have hl5 := hS5.len
          have hpt5 : ((posS S t2 : Nat) : Int) ≤ 1000000 := by unfold posS; omega
          have z41 : ((((41 : UInt8)).toNat : Nat) : Int) = 41 := rfl
          (try simp (maxSteps := 1000000) (dsimp := false) (disch := (first | omega | (simp only [okR]; done) | (simp only [sizeR] <;> omega) | fail)) only [↓preR, postR, ↓w_stop, Nat.reduceEqDiff, Nat.reduceAdd, Nat.reduceSub, Nat.reduceMul, Int.reduceNeg, Nat.reduceLT, Int.reduceToNat, Nat.reduceLeDiff, Nat.sub_zero, Option.getD_some, List.getElem?_cons_zero, z41])
          refine hJ8 _ _ ?_
          (try simp (maxSteps := 1000000) (dsimp := false) (disch := (first | omega | (simp only [okR]; done) | (simp only [sizeR] <;> omega) | fail)) only [↓preR, postR, ↓w_stop, Nat.reduceEqDiff, Nat.reduceAdd, Nat.reduceSub, Nat.reduceMul, Int.reduceNeg, Nat.reduceLT, Int.reduceToNat, Nat.reduceLeDiff, Nat.sub_zero, o5, ep5])
          refine hk v (st'.skip.at t2) false u' _ ⟨a2.num, a2.over, ((lt.trans a2.lq).skip).at (by rw [ht2']; simp), fun h => (by cases h), fun _ => ?_⟩ hS5.tail h7
          have a3 := a2.ok rfl
          have e := hev _ rfl
          rw [e]
          cases he : ev (lookV vars) f .set (st.skip.at t) with
          | none => rw [he] at a3; exact a3
          | some q =>
            rw [he] at a3
            obtain ⟨n, s2'⟩ := q
            obtain ⟨rfl, rfl, _⟩ := a3
            simp only [ht2]
            all_goals first
              | exact ⟨rfl, rfl, rfl⟩
              | (simp; rfl)
        · have hno : ∀ t2, ¬ skipB st'.left = 41 :: t2 := fun t2 h => h41 ⟨t2, h⟩
          have hnz : ¬ ((((st'.skip.left[0]?).getD 0).toNat : Nat) : Int) = 41 := by
            intro e
            have e2 : (st'.skip.left[0]?).getD 0 = 41 := UInt8.toNat_inj.1 (by show _ = 41; omega)
            cases hq : st'.skip.left with
            | nil => rw [hq] at e2; cases e2
            | cons d t3 =>
              rw [hq] at e2
              have e2 : d = 41 := e2
              exact hno t3 (by rw [show skipB st'.left = st'.skip.left from rfl, hq, e2])
          (try simp (maxSteps := 1000000) (dsimp := false) (disch := (first | omega | (simp only [okR]; done) | (simp only [sizeR] <;> omega) | fail)) only [↓preR, postR, ↓w_stop, Nat.reduceEqDiff, Nat.reduceAdd, Nat.reduceSub, Nat.reduceMul, Int.reduceNeg, Nat.reduceLT, Int.reduceToNat, Nat.reduceLeDiff, Nat.sub_zero, hnz, o5])
          exact bad (.inr hno) _ h6
    have n40 : ¬ (c.toNat : Int) = 40 := hcn 40 c40
    (try simp (maxSteps := 1000000) (dsimp := false) (disch := (first | omega | (simp only [okR]; done) | (simp only [sizeR] <;> omega) | fail)) only [↓preR, postR, ↓w_stop, Nat.reduceEqDiff, Nat.reduceAdd, Nat.reduceSub, Nat.reduceMul, Int.reduceNeg, Nat.reduceLT, Int.reduceToNat, Nat.reduceLeDiff, Nat.sub_zero, Option.getD_some, List.getElem?_cons_zero, n43, n45, n33, n126, n40])
    refine hJ2 _ _ ?_
    clear hJ2 sub sign
    have lfr : ∀ n, Lq B st (st.skip.at ((c :: t).drop n)) := fun n => lq0.at (by rw [hl, List.length_drop]; omega)
    have hctl : (c :: t).length ≤ 1000000 := by simp only [List.length_cons]; omega
    have eS : S.drop (posS S (c :: t)) = c :: t := hS1.eq
    have hpsl : posS S (c :: t) ≤ S.length := Nat.sub_le _ _
    (try simp (maxSteps := 1000000) (dsimp := false) (disch := (first | omega | (simp only [okR]; done) | (simp only [sizeR] <;> omega) | fail)) only [↓preR, postR, ↓w_stop, Nat.reduceEqDiff, Nat.reduceAdd, Nat.reduceSub, Nat.reduceMul, Int.reduceNeg, Nat.reduceLT, Int.reduceToNat, Nat.reduceLeDiff, Nat.sub_zero])
    refine join_by fun J3 hJ3 => ?_
    (try simp (maxSteps := 1000000) (dsimp := false) (disch := (first | omega | (simp only [okR]; done) | (simp only [sizeR] <;> omega) | fail)) only [↓preR, postR, ↓w_stop, Nat.reduceEqDiff, Nat.reduceAdd, Nat.reduceSub, Nat.reduceMul, Int.reduceNeg, Nat.reduceLT, Int.reduceToNat, Nat.reduceLeDiff, Nat.sub_zero, Option.getD_some, List.getElem?_cons_zero])
    refine ralpha_c ?_
    cases hA : alphaB c with
    | true =>
      have hfl := front_le 0 (c :: t)
      have hfull : List.take (S.length - posS S (c :: t)) (S.drop (posS S (c :: t))) = c :: t := by
        rw [eS]
        exact List.take_of_length_le (by unfold posS; rw [hlen]; omega)
      (try simp (maxSteps := 1000000) (dsimp := false) (disch := (first | omega | (simp only [okR]; done) | (simp only [sizeR] <;> omega) | fail)) only [↓preR, postR, ↓w_stop, Nat.reduceEqDiff, Nat.reduceAdd, Nat.reduceSub, Nat.reduceMul, Int.reduceNeg, Nat.reduceLT, Int.reduceToNat, Nat.reduceLeDiff, Nat.sub_zero, o1, hfull])
      refine rfront_c (by unfold maxLen; omega) ?_
      obtain ⟨n, hn⟩ : ∃ n, n = frontF 0 (c :: t) := ⟨_, rfl⟩
      rw [← hn] at hfl ⊢
      have en := posS_drop hS1 hfl
      have hSn := hS1.drop n
      have hpn : ((posS S ((c :: t).drop n) : Nat) : Int) ≤ (S.length : Int) := by unfold posS; omega
      have hpd : posS S ((c :: t).drop n) - posS S (c :: t) = n := by
        have : ((posS S ((c :: t).drop n) : Nat) : Int) = (posS S (c :: t) : Nat) + (n : Int) := en.symm
        omega
      have htk : List.take n (S.drop (posS S (c :: t))) = (c :: t).take n := by rw [eS]
      have h5 : Hs (s1.put p (.cells [.string (bs S), .int .i64 (posS S ((c :: t).drop n)), .int .i64 st.skip.over, .bool false, .int .i64 st.skip.fell, vv, u])) X (WoR p S vv u (st.skip.at ((c :: t).drop n)) false R) := h1.put
      have hple : posS S (c :: t) ≤ posS S ((c :: t).drop n) := by omega
      (try simp (maxSteps := 1000000) (dsimp := false) (disch := (first | omega | (simp only [okR]; done) | (simp only [sizeR] <;> omega) | fail)) only [↓preR, postR, ↓w_stop, Nat.reduceEqDiff, Nat.reduceAdd, Nat.reduceSub, Nat.reduceMul, Int.reduceNeg, Nat.reduceLT, Int.reduceToNat, Nat.reduceLeDiff, Nat.sub_zero, o1, en, hpd, htk])
      refine rask_c (st := st.skip.at ((c :: t).drop n)) (B := B) hV hI.s (by show st.sets.length ≤ _; omega) h5 fun s2 h6 => ?_
      have hask := ask_ok hL (st := st.skip.at ((c :: t).drop n)) hI.s ((c :: t).take n)
      have eb : askB (lookV vars) (st.skip.at ((c :: t).drop n)) false ((c :: t).take n) = askP (lookV vars) (st.skip.at ((c :: t).drop n)) ((c :: t).take n) := rfl
      rw [eb] at h6 ⊢
      (try simp (maxSteps := 1000000) (dsimp := false) (disch := (first | omega | (simp only [okR]; done) | (simp only [sizeR] <;> omega) | fail)) only [↓preR, postR, ↓w_stop, Nat.reduceEqDiff, Nat.reduceAdd, Nat.reduceSub, Nat.reduceMul, Int.reduceNeg, Nat.reduceLT, Int.reduceToNat, Nat.reduceLeDiff, Nat.sub_zero])
      refine hk _ _ _ _ _ ⟨hask.2.2.2, hask.1, (lfr n).same hask.2.1 hask.2.2.1, fun h => (by cases h), fun _ => ?_⟩ (by rw [hask.2.1]; exact hSn) h6
      rw [ev_opnd hl, if_neg csg, if_neg c40, if_pos hA, ← hn]
      first
        | exact ⟨rfl, rfl, rfl⟩
        | (simp; done)
        | (simp; rfl)
    | false =>
    (try simp (maxSteps := 1000000) (dsimp := false) (disch := (first | omega | (simp only [okR]; done) | (simp only [sizeR] <;> omega) | fail)) only [↓preR, postR, ↓w_stop, Nat.reduceEqDiff, Nat.reduceAdd, Nat.reduceSub, Nat.reduceMul, Int.reduceNeg, Nat.reduceLT, Int.reduceToNat, Nat.reduceLeDiff, Nat.sub_zero])
    refine hJ3 _ _ ?_
    clear hJ3
    (try simp (maxSteps := 1000000) (dsimp := false) (disch := (first | omega | (simp only [okR]; done) | (simp only [sizeR] <;> omega) | fail)) only [↓preR, postR, ↓w_stop, Nat.reduceEqDiff, Nat.reduceAdd, Nat.reduceSub, Nat.reduceMul, Int.reduceNeg, Nat.reduceLT, Int.reduceToNat, Nat.reduceLeDiff, Nat.sub_zero, o1])
    refine join_by fun J4 hJ4 => ?_
    obtain ⟨N, hN⟩ : ∃ N, N = if digitB c = true then frontF 1 (c :: t) else 0 := ⟨_, rfl⟩
    have hNl : N ≤ (c :: t).length := by
      rw [hN]
      split
      · exact front_le 1 _
      · exact Nat.zero_le _
    have tail : ∀ s2, Hs s2 X (WoR p S vv u (st.skip.at ((c :: t).drop N)) false R) → J4 [] s2 := by
      intro s2 h2
      refine hJ4 _ _ ?_
      clear hJ4
      have en := posS_drop hS1 hNl
      have hSn := hS1.drop N
      have hpn : ((posS S ((c :: t).drop N) : Nat) : Int) ≤ (S.length : Int) := by unfold posS; omega
      have hpd : posS S ((c :: t).drop N) - posS S (c :: t) = N := by
        have : ((posS S ((c :: t).drop N) : Nat) : Int) = (posS S (c :: t) : Nat) + (N : Int) := en.symm
        omega
      have htk : List.take N (S.drop (posS S (c :: t))) = (c :: t).take N := by rw [eS]
      have hple : posS S (c :: t) ≤ posS S ((c :: t).drop N) := by omega
      have o2 : s2.m p = some (.cells [.string (bs S), .int .i64 (posS S ((c :: t).drop N)), .int .i64 st.skip.over, .bool false, .int .i64 st.skip.fell, vv, u]) := h2.obj
      have h3' : Hs (s2.put p (.cells [.string (bs S), .int .i64 (posS S ((c :: t).drop N)), .int .i64 st.skip.over, .bool true, .int .i64 st.skip.fell, vv, u])) X (WoR p S vv u (st.skip.at ((c :: t).drop N)) true R) := h2.put
      have hw : ((c :: t).take N).length ≤ 1000000 := by rw [List.length_take]; omega
      (try simp (maxSteps := 1000000) (dsimp := false) (disch := (first | omega | (simp only [okR]; done) | (simp only [sizeR] <;> omega) | fail)) only [↓preR, postR, ↓w_stop, Nat.reduceEqDiff, Nat.reduceAdd, Nat.reduceSub, Nat.reduceMul, Int.reduceNeg, Nat.reduceLT, Int.reduceToNat, Nat.reduceLeDiff, Nat.sub_zero, o2, hpd, htk])
      refine rnum_c hw fun v ok hq => ?_
      have evd : ev (lookV vars) (f + 1) .opnd st = (match numP ((c :: t).take N) with
          | none => none
          | some n1 => if 9223372036854775808 ≤ n1 then none else some ((n1 : Int), st.skip.at ((c :: t).drop N))) := by
        rw [ev_opnd hl, if_neg csg, if_neg c40, if_neg (by rw [hA]; decide)]
        split
        · rename_i hD
          rw [if_pos hD] at hN
          rw [hN]
        · rename_i hD
          rw [if_neg hD] at hN
          rw [hN]
          rfl
      have badp : (∀ n1, numP ((c :: t).take N) = some n1 → 9223372036854775808 ≤ n1) → k (.int .i64 0) (s2.put p (.cells [.string (bs S), .int .i64 (posS S ((c :: t).drop N)), .int .i64 st.skip.over, .bool true, .int .i64 st.skip.fell, vv, u])) := by
        intro hno
        refine hk _ (st.skip.at ((c :: t).drop N)) true u _ ⟨by unfold inI64; omega, rfl, lfr N, fun h => (by cases h), fun _ => ?_⟩ hSn h3'
        rw [evd]
        cases hq : numP ((c :: t).take N) with
        | none => rfl
        | some n1 => simp only [if_pos (hno n1 hq)]
      (try simp (maxSteps := 1000000) (dsimp := false) (disch := (first | omega | (simp only [okR]; done) | (simp only [sizeR] <;> omega) | fail)) only [↓preR, postR, ↓w_stop, Nat.reduceEqDiff, Nat.reduceAdd, Nat.reduceSub, Nat.reduceMul, Int.reduceNeg, Nat.reduceLT, Int.reduceToNat, Nat.reduceLeDiff, Nat.sub_zero])
      refine join_by fun J5 hJ5 => ?_
      rcases hq with ⟨n1, q1, q2, rfl, rfl⟩ | ⟨rfl, rfl, q3⟩
      · by_cases hbig : (n1 : Int) = 9223372036854775808
        · have bp := badp (fun n2 h => by rw [q1] at h; cases h; omega)
          (try simp (maxSteps := 1000000) (dsimp := false) (disch := (first | omega | (simp only [okR]; done) | (simp only [sizeR] <;> omega) | fail)) only [↓preR, postR, ↓w_stop, Nat.reduceEqDiff, Nat.reduceAdd, Nat.reduceSub, Nat.reduceMul, Int.reduceNeg, Nat.reduceLT, Int.reduceToNat, Nat.reduceLeDiff, Nat.sub_zero, hbig, o2])
          exact bp
        · have hbig' : ¬ 9223372036854775808 ≤ n1 := by omega
          have w1 : IntKind.i64.wrap (n1 : Int) = (n1 : Int) := wrap64 _ (by omega) (by omega)
          (try simp (maxSteps := 1000000) (dsimp := false) (disch := (first | omega | (simp only [okR]; done) | (simp only [sizeR] <;> omega) | fail)) only [↓preR, postR, ↓w_stop, Nat.reduceEqDiff, Nat.reduceAdd, Nat.reduceSub, Nat.reduceMul, Int.reduceNeg, Nat.reduceLT, Int.reduceToNat, Nat.reduceLeDiff, Nat.sub_zero, hbig])
          refine hJ5 _ _ ?_
          (try simp (maxSteps := 1000000) (dsimp := false) (disch := (first | omega | (simp only [okR]; done) | (simp only [sizeR] <;> omega) | fail)) only [↓preR, postR, ↓w_stop, Nat.reduceEqDiff, Nat.reduceAdd, Nat.reduceSub, Nat.reduceMul, Int.reduceNeg, Nat.reduceLT, Int.reduceToNat, Nat.reduceLeDiff, Nat.sub_zero, ↓w1])
          refine hk (n1 : Int) (st.skip.at ((c :: t).drop N)) false u _ ⟨by unfold inI64; omega, rfl, lfr N, fun h => (by cases h), fun _ => ?_⟩ hSn h2
          rw [evd, q1]
          all_goals simp only [if_neg hbig']
          all_goals first
            | exact ⟨rfl, rfl, rfl⟩
            | (simp; done)
            | (simp; rfl)
      · have bp := badp (fun n2 h => Nat.le_of_lt (q3 n2 h))
        (try simp (maxSteps := 1000000) (dsimp := false) (disch := (first | omega | (simp only [okR]; done) | (simp only [sizeR] <;> omega) | fail)) only [↓preR, postR, ↓w_stop, Nat.reduceEqDiff, Nat.reduceAdd, Nat.reduceSub, Nat.reduceMul, Int.reduceNeg, Nat.reduceLT, Int.reduceToNat, Nat.reduceLeDiff, Nat.sub_zero, o2])
        exact bp
    clear hJ4
    (try simp (maxSteps := 1000000) (dsimp := false) (disch := (first | omega | (simp only [okR]; done) | (simp only [sizeR] <;> omega) | fail)) only [↓preR, postR, ↓w_stop, Nat.reduceEqDiff, Nat.reduceAdd, Nat.reduceSub, Nat.reduceMul, Int.reduceNeg, Nat.reduceLT, Int.reduceToNat, Nat.reduceLeDiff, Nat.sub_zero])
    refine loop_inv (fun nn xs s2 => ∃ j : Nat, xs = [] ∧ j ≤ (c :: t).length ∧ (j = 0 ∨ (digitB c = true ∧ j + frontF 1 ((c :: t).drop j) = N)) ∧ Hs s2 X (WoR p S vv u (st.skip.at ((c :: t).drop j)) false R) ∧ nn = (c :: t).length - j) _ ⟨0, rfl, Nat.zero_le _, .inl rfl, by rw [← hl] at *; exact h1, rfl⟩ ?_
    rintro _ _ s2 again ⟨j, rfl, hj, hjn, h2, rfl⟩ hag
    have hSj := hS1.drop j
    have o2 : s2.m p = some (.cells [.string (bs S), .int .i64 (posS S ((c :: t).drop j)), .int .i64 st.skip.over, .bool false, .int .i64 st.skip.fell, vv, u]) := h2.obj
    have gpj : S[posS S ((c :: t).drop j)]? = ((c :: t).drop j)[0]? := hSj.get 0
    have hpj : posS S ((c :: t).drop j) ≤ S.length := Nat.sub_le _ _
    (try simp (maxSteps := 1000000) (dsimp := false) (disch := (first | omega | (simp only [okR]; done) | (simp only [sizeR] <;> omega) | fail)) only [↓preR, postR, ↓w_stop, Nat.reduceEqDiff, Nat.reduceAdd, Nat.reduceSub, Nat.reduceMul, Int.reduceNeg, Nat.reduceLT, Int.reduceToNat, Nat.reduceLeDiff, Nat.sub_zero])
    refine join_by fun J7 hJ7 => ?_
    (try simp (maxSteps := 1000000) (dsimp := false) (disch := (first | omega | (simp only [okR]; done) | (simp only [sizeR] <;> omega) | fail)) only [↓preR, postR, ↓w_stop, Nat.reduceEqDiff, Nat.reduceAdd, Nat.reduceSub, Nat.reduceMul, Int.reduceNeg, Nat.reduceLT, Int.reduceToNat, Nat.reduceLeDiff, Nat.sub_zero, o2])
    refine sign_c (posS S ((c :: t).drop j)) (by omega) h2 hSl ?_
    rw [gpj]
    obtain ⟨d, hd⟩ : ∃ d, d = (((c :: t).drop j)[0]?).getD 0 := ⟨_, rfl⟩
    rw [← hd]
    (try simp (maxSteps := 1000000) (dsimp := false) (disch := (first | omega | (simp only [okR]; done) | (simp only [sizeR] <;> omega) | fail)) only [↓preR, postR, ↓w_stop, Nat.reduceEqDiff, Nat.reduceAdd, Nat.reduceSub, Nat.reduceMul, Int.reduceNeg, Nat.reduceLT, Int.reduceToNat, Nat.reduceLeDiff, Nat.sub_zero])
    refine rdigit_c ?_
    have out : N = j → J4 [] s2 := fun e => tail s2 (by rw [e]; exact h2)
    have next : j < (c :: t).length → (digitB c = true ∧ (j + 1) + frontF 1 ((c :: t).drop (j + 1)) = N) → J7 [] s2 := by
      intro hlt hx
      refine hJ7 _ _ ?_
      have e1 : ((posS S ((c :: t).drop j) : Nat) : Int) + 1 = ((posS S (t.drop j) : Nat) : Int) := by
        have := posS_drop hS1 hj
        have := posS_drop hS1 (show j + 1 ≤ (c :: t).length from hlt)
        have e2 : (c :: t).drop (j + 1) = t.drop j := rfl
        rw [e2] at this
        omega
      have hpj1 : ((posS S (t.drop j) : Nat) : Int) ≤ (S.length : Int) := by unfold posS; omega
      have h3 : Hs (s2.put p (.cells [.string (bs S), .int .i64 (posS S (t.drop j)), .int .i64 st.skip.over, .bool false, .int .i64 st.skip.fell, vv, u])) X (WoR p S vv u (st.skip.at ((c :: t).drop (j + 1))) false R) := h2.put
      (try simp (maxSteps := 1000000) (dsimp := false) (disch := (first | omega | (simp only [okR]; done) | (simp only [sizeR] <;> omega) | fail)) only [↓preR, postR, ↓w_stop, Nat.reduceEqDiff, Nat.reduceAdd, Nat.reduceSub, Nat.reduceMul, Int.reduceNeg, Nat.reduceLT, Int.reduceToNat, Nat.reduceLeDiff, Nat.sub_zero, o2, e1])
      exact hag _ _ _ ⟨j + 1, rfl, hlt, .inr hx, h3, rfl⟩ (by omega)
    clear hJ7 tail
    have ej := posS_drop hS1 hj
    by_cases hj0 : j = 0
    · subst hj0
      have hdc : d = c := hd
      rw [hdc]
      have ngt : ¬ ((posS S (c :: t) : Nat) : Int) < ((posS S ((c :: t).drop 0) : Nat) : Int) := by omega
      cases hD : digitB c with
      | true =>
        rw [if_pos hD] at hN
        have nx := next (by simp) ⟨hD, by
          rw [hN]
          show 1 + frontF 1 t = frontF 1 (c :: t)
          simp only [frontF, hD]
          rw [front_pos t 2 (by omega)]
          simp⟩
        (try simp (maxSteps := 1000000) (dsimp := false) (disch := (first | omega | (simp only [okR]; done) | (simp only [sizeR] <;> omega) | fail)) only [↓preR, postR, ↓w_stop, Nat.reduceEqDiff, Nat.reduceAdd, Nat.reduceSub, Nat.reduceMul, Int.reduceNeg, Nat.reduceLT, Int.reduceToNat, Nat.reduceLeDiff, Nat.sub_zero, o2])
        exact nx
      | false =>
        rw [if_neg (by rw [hD]; decide)] at hN
        have ot := out hN
        (try simp (maxSteps := 1000000) (dsimp := false) (disch := (first | omega | (simp only [okR]; done) | (simp only [sizeR] <;> omega) | fail)) only [↓preR, postR, ↓w_stop, Nat.reduceEqDiff, Nat.reduceAdd, Nat.reduceSub, Nat.reduceMul, Int.reduceNeg, Nat.reduceLT, Int.reduceToNat, Nat.reduceLeDiff, Nat.sub_zero, o2, ngt])
        exact ot
    · obtain ⟨hDc, hjN⟩ : digitB c = true ∧ j + frontF 1 ((c :: t).drop j) = N := hjn.resolve_left hj0
      have gt : ((posS S (c :: t) : Nat) : Int) < ((posS S ((c :: t).drop j) : Nat) : Int) := by omega
      have hfr : frontF 1 ((c :: t).drop j) = if alphaB d || digitB d then 1 + frontF 1 ((c :: t).drop (j + 1)) else 0 := by
        cases hdr : (c :: t).drop j with
        | nil =>
          rw [hdr] at hd
          have hd0 : d = 0 := hd
          rw [hd0]
          rfl
        | cons x y =>
          rw [hdr] at hd
          have hdx : d = x := hd
          have hy : (c :: t).drop (j + 1) = y := by rw [← List.drop_drop, hdr]; rfl
          rw [hdx, hy]
          simp only [frontF]
          rw [front_pos y 2 (by omega)]
          simp
      have hlt : frontF 1 ((c :: t).drop j) ≠ 0 → j < (c :: t).length := by
        intro h0
        by_cases hh : j < (c :: t).length
        · exact hh
        · rw [List.drop_of_length_le (by omega)] at h0
          exact absurd rfl h0
      cases hD : digitB d with
      | true =>
        rw [hD, Bool.or_true, if_pos rfl] at hfr
        have nx := next (hlt (by omega)) ⟨hDc, by omega⟩
        (try simp (maxSteps := 1000000) (dsimp := false) (disch := (first | omega | (simp only [okR]; done) | (simp only [sizeR] <;> omega) | fail)) only [↓preR, postR, ↓w_stop, Nat.reduceEqDiff, Nat.reduceAdd, Nat.reduceSub, Nat.reduceMul, Int.reduceNeg, Nat.reduceLT, Int.reduceToNat, Nat.reduceLeDiff, Nat.sub_zero, o2])
        exact nx
      | false =>
        rw [hD, Bool.or_false] at hfr
        (try simp (maxSteps := 1000000) (dsimp := false) (disch := (first | omega | (simp only [okR]; done) | (simp only [sizeR] <;> omega) | fail)) only [↓preR, postR, ↓w_stop, Nat.reduceEqDiff, Nat.reduceAdd, Nat.reduceSub, Nat.reduceMul, Int.reduceNeg, Nat.reduceLT, Int.reduceToNat, Nat.reduceLeDiff, Nat.sub_zero, o2, gt])
        refine sign_c (posS S ((c :: t).drop j)) (by omega) h2 hSl ?_
        rw [gpj, ← hd]
        (try simp (maxSteps := 1000000) (dsimp := false) (disch := (first | omega | (simp only [okR]; done) | (simp only [sizeR] <;> omega) | fail)) only [↓preR, postR, ↓w_stop, Nat.reduceEqDiff, Nat.reduceAdd, Nat.reduceSub, Nat.reduceMul, Int.reduceNeg, Nat.reduceLT, Int.reduceToNat, Nat.reduceLeDiff, Nat.sub_zero])
        refine ralpha_c ?_
        cases hA2 : alphaB d with
        | true =>
          rw [hA2, if_pos rfl] at hfr
          have nx := next (hlt (by omega)) ⟨hDc, by omega⟩
          (try simp (maxSteps := 1000000) (dsimp := false) (disch := (first | omega | (simp only [okR]; done) | (simp only [sizeR] <;> omega) | fail)) only [↓preR, postR, ↓w_stop, Nat.reduceEqDiff, Nat.reduceAdd, Nat.reduceSub, Nat.reduceMul, Int.reduceNeg, Nat.reduceLT, Int.reduceToNat, Nat.reduceLeDiff, Nat.sub_zero])
          exact nx
        | false =>
          rw [hA2, if_neg (by decide)] at hfr
          have ot := out (by omega)
          (try simp (maxSteps := 1000000) (dsimp := false) (disch := (first | omega | (simp only [okR]; done) | (simp only [sizeR] <;> omega) | fail)) only [↓preR, postR, ↓w_stop, Nat.reduceEqDiff, Nat.reduceAdd, Nat.reduceSub, Nat.reduceMul, Int.reduceNeg, Nat.reduceLT, Int.reduceToNat, Nat.reduceLeDiff, Nat.sub_zero])
          exact ot
end
end Go.Proofs.YtkbpbagjbjkpmaaGreatDoor

/- Arithmetic, as the document's answer works it out: a choice, sides. Conditions: as each theorem says. -/
namespace Go.Proofs.YtkbpbagjbjkpmaaGreatDoor
open E Go.Lib
open Rp
set_option linter.unusedVariables false
set_option linter.unusedSimpArgs false
set_option maxHeartbeats 1000000
set_option maxRecDepth 20000

section
variable {X : Ce} {p : Nat} {S : Str} {vv : Value} {B : Nat} {σ : AS} {k : Value → AS → Prop} {vars : List (Str × Str)}
theorem head_no {x : UInt8} {l : Str} (hx : ¬ x = 0) (h : ∀ t, ¬ l = x :: t) : ¬ ((((l[0]?).getD 0).toNat : Nat) : Int) = (x.toNat : Int) := by
  intro e
  have e2 : (l[0]?).getD 0 = x := UInt8.toNat_inj.1 (by omega)
  cases l with
  | nil => exact hx e2.symm
  | cons d t =>
    have e2 : d = x := e2
    exact h t (by rw [e2])
theorem choiceR_c {f : Nat} (hB : B ≤ 1000000) (hSl : S.length ≤ 1000000) (hV : VarsI X vv vars) (hL : LookI (lookV vars)) (ih : AllR X p S vv B (lookV vars) f) : FnR X p S vv B (lookV vars) 62 [] .choice (f + 1) := by
  intro σ R k st b u hf hI hS h hk
  refine f62 ?_
  have hlB := hI.n
  (try simp (maxSteps := 1000000) (dsimp := false) (disch := (first | omega | (simp only [okR]; done) | (simp only [sizeR] <;> omega) | fail)) only [↓preR, postR, ↓w_stop, Nat.reduceEqDiff, Nat.reduceAdd, Nat.reduceSub, Nat.reduceMul, Int.reduceNeg, Nat.reduceLT, Int.reduceToNat, Nat.reduceLeDiff, Nat.sub_zero, F62])
  refine ih.2.2.1 1 (by omega) (by omega) _ _ _ st b u (by simp only [needs] at hf ⊢; omega) hI hS h fun v s1 b1 u1 s3 a q3 h3 => ?_
  have hl1 := a.lq.left
  (try simp (maxSteps := 1000000) (dsimp := false) (disch := (first | omega | (simp only [okR]; done) | (simp only [sizeR] <;> omega) | fail)) only [↓preR, postR, ↓w_stop, Nat.reduceEqDiff, Nat.reduceAdd, Nat.reduceSub, Nat.reduceMul, Int.reduceNeg, Nat.reduceLT, Int.reduceToNat, Nat.reduceLeDiff, Nat.sub_zero])
  refine rskip_c hSl q3 h3 fun w0 s4 h4 => ?_
  have hS4 : Suf S s1.skip.left := q3.skip
  have gone : b1 = true → b = false → ev (lookV vars) (f + 1) .choice st = none := by
    intro hb1 hb
    have h5 := a.ok hb
    cases he : ev (lookV vars) f (.rank 1) st with
    | none => exact ev_choice_none he
    | some q =>
      rw [he] at h5
      obtain ⟨n, s5⟩ := q
      have := h5.2.2
      rw [hb1] at this; cases this
  have o4 : s4.m p = some (.cells [.string (bs S), .int .i64 (posS S s1.skip.left), .int .i64 s1.skip.over, .bool b1, .int .i64 s1.skip.fell, vv, u1]) := h4.obj
  have gp : S[posS S s1.skip.left]? = s1.skip.left[0]? := hS4.get 0
  have hps : posS S s1.skip.left ≤ S.length := Nat.sub_le _ _
  (try simp (maxSteps := 1000000) (dsimp := false) (disch := (first | omega | (simp only [okR]; done) | (simp only [sizeR] <;> omega) | fail)) only [↓preR, postR, ↓w_stop, Nat.reduceEqDiff, Nat.reduceAdd, Nat.reduceSub, Nat.reduceMul, Int.reduceNeg, Nat.reduceLT, Int.reduceToNat, Nat.reduceLeDiff, Nat.sub_zero])
  refine join_by fun J1 hJ1 => ?_
  cases b1 with
  | true =>
    (try simp (maxSteps := 1000000) (dsimp := false) (disch := (first | omega | (simp only [okR]; done) | (simp only [sizeR] <;> omega) | fail)) only [↓preR, postR, ↓w_stop, Nat.reduceEqDiff, Nat.reduceAdd, Nat.reduceSub, Nat.reduceMul, Int.reduceNeg, Nat.reduceLT, Int.reduceToNat, Nat.reduceLeDiff, Nat.sub_zero, o4])
    refine hk v s1.skip true u1 s4 ⟨a.num, a.over, a.lq.skip, fun _ => rfl, fun hb => ?_⟩ hS4 h4
    rw [gone rfl hb]
  | false =>
  have hb : b = false := by
    cases b with
    | false => rfl
    | true => have := a.bad rfl; cases this
  have ea : ev (lookV vars) f (.rank 1) st = some (v, s1) := by
    have h7 := a.ok hb
    cases he : ev (lookV vars) f (.rank 1) st with
    | none => rw [he] at h7; have h7 : false = true := h7; cases h7
    | some q =>
      rw [he] at h7
      obtain ⟨n, s5'⟩ := q
      obtain ⟨rfl, rfl, _⟩ := h7
      rfl
  (try simp (maxSteps := 1000000) (dsimp := false) (disch := (first | omega | (simp only [okR]; done) | (simp only [sizeR] <;> omega) | fail)) only [↓preR, postR, ↓w_stop, Nat.reduceEqDiff, Nat.reduceAdd, Nat.reduceSub, Nat.reduceMul, Int.reduceNeg, Nat.reduceLT, Int.reduceToNat, Nat.reduceLeDiff, Nat.sub_zero, o4])
  refine sign_c (posS S s1.skip.left) (by omega) h4 hSl ?_
  rw [gp]
  by_cases h63 : ∃ t, skipB s1.left = 63 :: t
  rotate_left
  · have hno : ∀ t, ¬ skipB s1.left = 63 :: t := fun t ht => h63 ⟨t, ht⟩
    have hnz : ¬ ((((s1.skip.left[0]?).getD 0).toNat : Nat) : Int) = 63 := head_no (x := 63) (by decide) hno
    (try simp (maxSteps := 1000000) (dsimp := false) (disch := (first | omega | (simp only [okR]; done) | (simp only [sizeR] <;> omega) | fail)) only [↓preR, postR, ↓w_stop, Nat.reduceEqDiff, Nat.reduceAdd, Nat.reduceSub, Nat.reduceMul, Int.reduceNeg, Nat.reduceLT, Int.reduceToNat, Nat.reduceLeDiff, Nat.sub_zero, hnz])
    refine hk v s1.skip false u1 s4 ⟨a.num, a.over, a.lq.skip, a.bad, fun hb => ?_⟩ hS4 h4
    rw [ev_choice_out ea hno]
    exact ⟨rfl, rfl, rfl⟩
  obtain ⟨t, ht'⟩ := h63
  have ht : s1.skip.left = 63 :: t := ht'
  have htl := cons_skip ht'
  rw [ht] at o4 hS4 gp hps ⊢
  have ep := posS_cons hS4
  have hpt : ((posS S t : Nat) : Int) ≤ (S.length : Int) := by unfold posS; omega
  have hSt := hS4.tail
  have z63 : (((63 : UInt8).toNat : Nat) : Int) = 63 := rfl
  have h5 : Hs (s4.put p (.cells [.string (bs S), .int .i64 (posS S t), .int .i64 s1.skip.over, .bool false, .int .i64 s1.skip.fell, vv, u1])) X (WoR p S vv u1 (s1.skip.at t) false R) := h4.put
  (try simp (maxSteps := 1000000) (dsimp := false) (disch := (first | omega | (simp only [okR]; done) | (simp only [sizeR] <;> omega) | fail)) only [↓preR, postR, ↓w_stop, Nat.reduceEqDiff, Nat.reduceAdd, Nat.reduceSub, Nat.reduceMul, Int.reduceNeg, Nat.reduceLT, Int.reduceToNat, Nat.reduceLeDiff, Nat.sub_zero, Option.getD_some, List.getElem?_cons_zero, z63])
  refine hJ1 _ _ ?_
  clear hJ1
  (try simp (maxSteps := 1000000) (dsimp := false) (disch := (first | omega | (simp only [okR]; done) | (simp only [sizeR] <;> omega) | fail)) only [↓preR, postR, ↓w_stop, Nat.reduceEqDiff, Nat.reduceAdd, Nat.reduceSub, Nat.reduceMul, Int.reduceNeg, Nat.reduceLT, Int.reduceToNat, Nat.reduceLeDiff, Nat.sub_zero, o4, ep])
  generalize AS.put _ _ _ = s5 at h5 ⊢
  have o5 : s5.m p = some (.cells [.string (bs S), .int .i64 (posS S t), .int .i64 s1.over, .bool false, .int .i64 s1.fell, vv, u1]) := h5.obj
  have hsum := a.lq.sum
  have hov := a.over
  have lq1 : Lq B st (s1.skip.at t) := a.lq.skip.at (by rw [ht]; simp)
  have hIp : InvS B ((s1.skip.at t).pass (decide (¬ v = 0))) := .pass (by
    show s1.over + 1 + t.length + s1.sets.length ≤ B
    omega) a.lq.s
  have lqp : Lq B st ((s1.skip.at t).pass (decide (¬ v = 0))) := lq1.same rfl rfl
  have he := ev_choice_in ea ht'
  refine join_by fun J2 hJ2 => ?_
  have go : ∀ s6, Hs s6 X (WoR p S vv u1 ((s1.skip.at t).pass (decide (¬ v = 0))) false R) → J2 [] s6 := by
    intro s6 h6
    refine hJ2 _ _ ?_
    clear hJ2
    (try simp (maxSteps := 1000000) (dsimp := false) (disch := (first | omega | (simp only [okR]; done) | (simp only [sizeR] <;> omega) | fail)) only [↓preR, postR, ↓w_stop, Nat.reduceEqDiff, Nat.reduceAdd, Nat.reduceSub, Nat.reduceMul, Int.reduceNeg, Nat.reduceLT, Int.reduceToNat, Nat.reduceLeDiff, Nat.sub_zero])
    refine ih.1 _ _ _ ((s1.skip.at t).pass (decide (¬ v = 0))) false u1 (by show needs _ t.length ≤ f; simp only [needs] at hf ⊢; omega) hIp hSt h6 fun w s7 b7 u7 s8 a7 q7 h7 => ?_
    have hl7 := a7.lq.left
    have hl7' : s7.left.length ≤ t.length := hl7
    have a7ok := a7.ok rfl
    have lq7 : Lq B st (s7.un s1.over) := (lqp.trans a7.lq).same rfl rfl
    (try simp (maxSteps := 1000000) (dsimp := false) (disch := (first | omega | (simp only [okR]; done) | (simp only [sizeR] <;> omega) | fail)) only [↓preR, postR, ↓w_stop, Nat.reduceEqDiff, Nat.reduceAdd, Nat.reduceSub, Nat.reduceMul, Int.reduceNeg, Nat.reduceLT, Int.reduceToNat, Nat.reduceLeDiff, Nat.sub_zero])
    refine join_by fun J3 hJ3 => ?_
    have go3 : ∀ s9, Hs s9 X (WoR p S vv u7 (s7.un s1.over) b7 R) → J3 [] s9 := by
      intro s9 h9
      refine hJ3 _ _ ?_
      clear hJ3
      (try simp (maxSteps := 1000000) (dsimp := false) (disch := (first | omega | (simp only [okR]; done) | (simp only [sizeR] <;> omega) | fail)) only [↓preR, postR, ↓w_stop, Nat.reduceEqDiff, Nat.reduceAdd, Nat.reduceSub, Nat.reduceMul, Int.reduceNeg, Nat.reduceLT, Int.reduceToNat, Nat.reduceLeDiff, Nat.sub_zero])
      refine rskip_c hSl (by show Suf S s7.left; exact q7) h9 fun w1 s10 h10 => ?_
      have hS10 : Suf S s7.skip.left := q7.skip
      have o10 : s10.m p = some (.cells [.string (bs S), .int .i64 (posS S s7.skip.left), .int .i64 s1.over, .bool b7, .int .i64 s7.fell, vv, u7]) := h10.obj
      have gp10 : S[posS S s7.skip.left]? = s7.skip.left[0]? := hS10.get 0
      have hps10 : posS S s7.skip.left ≤ S.length := Nat.sub_le _ _
      have bad : (b7 = true ∨ ∀ t2, ¬ skipB s7.left = 58 :: t2) → ∀ s11, Hs s11 X (WoR p S vv u7 (s7.un s1.over).skip true R) → k (.int .i64 0) s11 := by
        intro hbad s11 h11
        refine hk 0 (s7.un s1.over).skip true u7 _ ⟨by unfold inI64; omega, a.over, lq7.skip, fun h => absurd h (by rw [hb]; decide), fun _ => ?_⟩ hS10 h11
        rw [he]
        cases hq : ev (lookV vars) f .set ((s1.skip.at t).pass (decide (¬ v = 0))) with
        | none =>
          have hq' : ev (lookV vars) f .set ((s1.at t).pass (decide (¬ v = 0))) = none := hq
          rw [hq']
        | some q =>
          rw [hq] at a7ok
          obtain ⟨n, s5'⟩ := q
          obtain ⟨rfl, rfl, hb7⟩ := a7ok
          have hq' : ev (lookV vars) f .set ((s1.at t).pass (decide (¬ v = 0))) = some (w, s7) := hq
          rw [hq']
          have hno := hbad.resolve_left (by rw [hb7]; decide)
          simp only
          all_goals first
            | done
            | (split
               · rename_i t2 h; exact absurd h (hno t2)
               · rfl)
      (try simp (maxSteps := 1000000) (dsimp := false) (disch := (first | omega | (simp only [okR]; done) | (simp only [sizeR] <;> omega) | fail)) only [↓preR, postR, ↓w_stop, Nat.reduceEqDiff, Nat.reduceAdd, Nat.reduceSub, Nat.reduceMul, Int.reduceNeg, Nat.reduceLT, Int.reduceToNat, Nat.reduceLeDiff, Nat.sub_zero])
      refine join_by fun J4 hJ4 => ?_
      have hbadS : Hs (s10.put p (.cells [.string (bs S), .int .i64 (posS S s7.skip.left), .int .i64 s1.over, .bool true, .int .i64 s7.fell, vv, u7])) X (WoR p S vv u7 (s7.un s1.over).skip true R) := h10.put
      cases b7 with
      | true =>
        (try simp (maxSteps := 1000000) (dsimp := false) (disch := (first | omega | (simp only [okR]; done) | (simp only [sizeR] <;> omega) | fail)) only [↓preR, postR, ↓w_stop, Nat.reduceEqDiff, Nat.reduceAdd, Nat.reduceSub, Nat.reduceMul, Int.reduceNeg, Nat.reduceLT, Int.reduceToNat, Nat.reduceLeDiff, Nat.sub_zero, o10])
        exact bad (.inl rfl) _ hbadS
      | false =>
      (try simp (maxSteps := 1000000) (dsimp := false) (disch := (first | omega | (simp only [okR]; done) | (simp only [sizeR] <;> omega) | fail)) only [↓preR, postR, ↓w_stop, Nat.reduceEqDiff, Nat.reduceAdd, Nat.reduceSub, Nat.reduceMul, Int.reduceNeg, Nat.reduceLT, Int.reduceToNat, Nat.reduceLeDiff, Nat.sub_zero, o10])
      refine sign_c (posS S s7.skip.left) (by omega) h10 hSl ?_
      rw [gp10]
      by_cases h58 : ∃ t2, skipB s7.left = 58 :: t2
      rotate_left
      · have hno : ∀ t, ¬ skipB s7.left = 58 :: t := fun t ht => h58 ⟨t, ht⟩
        have hnz : ¬ ((((s7.skip.left[0]?).getD 0).toNat : Nat) : Int) = 58 := head_no (x := 58) (by decide) hno
        (try simp (maxSteps := 1000000) (dsimp := false) (disch := (first | omega | (simp only [okR]; done) | (simp only [sizeR] <;> omega) | fail)) only [↓preR, postR, ↓w_stop, Nat.reduceEqDiff, Nat.reduceAdd, Nat.reduceSub, Nat.reduceMul, Int.reduceNeg, Nat.reduceLT, Int.reduceToNat, Nat.reduceLeDiff, Nat.sub_zero, hnz, o10])
        exact bad (.inr hno) _ hbadS
      obtain ⟨t2, ht2'⟩ := h58
      have ht2 : s7.skip.left = 58 :: t2 := ht2'
      have ht2l := cons_skip ht2'
      clear bad hbadS
      rw [ht2] at o10 hS10 gp10 hps10 ⊢
      have ep2 := posS_cons hS10
      have hpt2 : ((posS S t2 : Nat) : Int) ≤ (S.length : Int) := by unfold posS; omega
      have hSt2 := hS10.tail
      have z58 : (((58 : UInt8).toNat : Nat) : Int) = 58 := rfl
      have h11 : Hs (s10.put p (.cells [.string (bs S), .int .i64 (posS S t2), .int .i64 s1.over, .bool false, .int .i64 s7.fell, vv, u7])) X (WoR p S vv u7 ((s7.un s1.over).skip.at t2) false R) := h10.put
      (try simp (maxSteps := 1000000) (dsimp := false) (disch := (first | omega | (simp only [okR]; done) | (simp only [sizeR] <;> omega) | fail)) only [↓preR, postR, ↓w_stop, Nat.reduceEqDiff, Nat.reduceAdd, Nat.reduceSub, Nat.reduceMul, Int.reduceNeg, Nat.reduceLT, Int.reduceToNat, Nat.reduceLeDiff, Nat.sub_zero, Option.getD_some, List.getElem?_cons_zero, z58])
      refine hJ4 _ _ ?_
      clear hJ4
      (try simp (maxSteps := 1000000) (dsimp := false) (disch := (first | omega | (simp only [okR]; done) | (simp only [sizeR] <;> omega) | fail)) only [↓preR, postR, ↓w_stop, Nat.reduceEqDiff, Nat.reduceAdd, Nat.reduceSub, Nat.reduceMul, Int.reduceNeg, Nat.reduceLT, Int.reduceToNat, Nat.reduceLeDiff, Nat.sub_zero, o10, ep2])
      generalize AS.put _ _ _ = s11 at h11 ⊢
      have o11 : s11.m p = some (.cells [.string (bs S), .int .i64 (posS S t2), .int .i64 s1.over, .bool false, .int .i64 s7.fell, vv, u7]) := h11.obj
      have hs6 := a7.lq.sum
      have hs6' : s7.left.length + s7.sets.length ≤ t.length + s1.sets.length := hs6
      have hIq : InvS B (((s7.un s1.over).skip.at t2).pass (decide (v = 0))) := .pass (by
        show s1.over + 1 + t2.length + s7.sets.length ≤ B
        omega) a7.lq.s
      have lqq : Lq B st (((s7.un s1.over).skip.at t2).pass (decide (v = 0))) := (lq7.skip.at (l := t2) (by show t2.length ≤ s7.skip.left.length; rw [ht2]; simp)).same rfl rfl
      refine join_by fun J5 hJ5 => ?_
      have go5 : ∀ s12, Hs s12 X (WoR p S vv u7 (((s7.un s1.over).skip.at t2).pass (decide (v = 0))) false R) → J5 [] s12 := by
        intro s12 h12
        refine hJ5 _ _ ?_
        clear hJ5
        (try simp (maxSteps := 1000000) (dsimp := false) (disch := (first | omega | (simp only [okR]; done) | (simp only [sizeR] <;> omega) | fail)) only [↓preR, postR, ↓w_stop, Nat.reduceEqDiff, Nat.reduceAdd, Nat.reduceSub, Nat.reduceMul, Int.reduceNeg, Nat.reduceLT, Int.reduceToNat, Nat.reduceLeDiff, Nat.sub_zero])
        refine ih.2.1 _ _ _ (((s7.un s1.over).skip.at t2).pass (decide (v = 0))) false u7 (by show needs _ t2.length ≤ f; simp only [needs] at hf ⊢; omega) hIq hSt2 h12 fun x s10' b10 u10 s13 a10 q10 h13 => ?_
        have aft : ∀ y : Int, y = (if v = 0 then x else w) → After B (lookV vars) (f + 1) .choice st b y (s10'.un s1.over) b10 := by
          intro y hy
          refine ⟨by rw [hy]; split; exact a10.num; exact a7.num, a.over, (lqq.trans a10.lq).same rfl rfl, fun h => absurd h (by rw [hb]; decide), fun _ => ?_⟩
          rw [he]
          cases hq : ev (lookV vars) f .set ((s1.skip.at t).pass (decide (¬ v = 0))) with
          | none =>
            rw [hq] at a7ok
            cases a7ok
          | some q =>
            rw [hq] at a7ok
            obtain ⟨n, s5'⟩ := q
            obtain ⟨rfl, rfl, _⟩ := a7ok
            have hq' : ev (lookV vars) f .set ((s1.at t).pass (decide (¬ v = 0))) = some (w, s7) := hq
            rw [hq']
            simp only [ht2']
            have a10ok := a10.ok rfl
            cases hr : ev (lookV vars) f .choice (((s7.un s1.over).skip.at t2).pass (decide (v = 0))) with
            | none =>
              have hr' : ev (lookV vars) f .choice (((s7.un s1.over).at t2).pass (decide (v = 0))) = none := hr
              rw [hr] at a10ok
              simp only [hr']
              exact a10ok
            | some q =>
              rw [hr] at a10ok
              obtain ⟨n, s5'⟩ := q
              obtain ⟨rfl, rfl, h10b⟩ := a10ok
              have hr' : ev (lookV vars) f .choice (((s7.un s1.over).at t2).pass (decide (v = 0))) = some (x, s10') := hr
              simp only [hr']
              exact ⟨hy, trivial, h10b⟩
        have hov10 : s10'.over = (((s7.un s1.over).skip.at t2).pass (decide (v = 0))).over := a10.over
        by_cases hv0 : v = 0
        · have e10 : s10'.un s1.over = s10' := by
            rw [decide_eq_true hv0] at hov10
            have e : s10'.over = s1.over := hov10
            rw [← e]; rfl
          have af := aft x (by rw [if_pos hv0])
          rw [e10] at af
          (try simp (maxSteps := 1000000) (dsimp := false) (disch := (first | omega | (simp only [okR]; done) | (simp only [sizeR] <;> omega) | fail)) only [↓preR, postR, ↓w_stop, Nat.reduceEqDiff, Nat.reduceAdd, Nat.reduceSub, Nat.reduceMul, Int.reduceNeg, Nat.reduceLT, Int.reduceToNat, Nat.reduceLeDiff, Nat.sub_zero])
          refine join_now ?_
          (try simp (maxSteps := 1000000) (dsimp := false) (disch := (first | omega | (simp only [okR]; done) | (simp only [sizeR] <;> omega) | fail)) only [↓preR, postR, ↓w_stop, Nat.reduceEqDiff, Nat.reduceAdd, Nat.reduceSub, Nat.reduceMul, Int.reduceNeg, Nat.reduceLT, Int.reduceToNat, Nat.reduceLeDiff, Nat.sub_zero, hv0])
          exact hk _ _ _ _ _ af q10 h13
        · have e10 : s10'.over = s1.over + 1 := by
            rw [decide_eq_false hv0] at hov10
            exact hov10
          have ed : (s10'.over : Int) - 1 = (s1.over : Int) := by omega
          have h14 : Hs (s13.put p (.cells [.string (bs S), .int .i64 (posS S s10'.left), .int .i64 s1.over, .bool b10, .int .i64 s10'.fell, vv, u10])) X (WoR p S vv u10 (s10'.un s1.over) b10 R) := h13.put
          have hob : ((s1.over : Nat) : Int) ≤ 1000000 := by omega
          (try simp (maxSteps := 1000000) (dsimp := false) (disch := (first | omega | (simp only [okR]; done) | (simp only [sizeR] <;> omega) | fail)) only [↓preR, postR, ↓w_stop, Nat.reduceEqDiff, Nat.reduceAdd, Nat.reduceSub, Nat.reduceMul, Int.reduceNeg, Nat.reduceLT, Int.reduceToNat, Nat.reduceLeDiff, Nat.sub_zero])
          refine join_now ?_
          (try simp (maxSteps := 1000000) (dsimp := false) (disch := (first | omega | (simp only [okR]; done) | (simp only [sizeR] <;> omega) | fail)) only [↓preR, postR, ↓w_stop, Nat.reduceEqDiff, Nat.reduceAdd, Nat.reduceSub, Nat.reduceMul, Int.reduceNeg, Nat.reduceLT, Int.reduceToNat, Nat.reduceLeDiff, Nat.sub_zero, hv0, h13.obj, ed])
          exact hk _ _ _ _ _ (aft w (by rw [if_neg hv0])) q10 h14
      clear hJ5
      by_cases hv0 : v = 0
      · rw [decide_eq_true hv0] at go5
        (try simp (maxSteps := 1000000) (dsimp := false) (disch := (first | omega | (simp only [okR]; done) | (simp only [sizeR] <;> omega) | fail)) only [↓preR, postR, ↓w_stop, Nat.reduceEqDiff, Nat.reduceAdd, Nat.reduceSub, Nat.reduceMul, Int.reduceNeg, Nat.reduceLT, Int.reduceToNat, Nat.reduceLeDiff, Nat.sub_zero, hv0])
        exact go5 _ h11
      · rw [decide_eq_false hv0] at go5
        have ed : (s1.over : Int) + 1 = ((s1.over + 1 : Nat) : Int) := by omega
        have h12 : Hs (s11.put p (.cells [.string (bs S), .int .i64 (posS S t2), .int .i64 ((s1.over + 1 : Nat) : Int), .bool false, .int .i64 s7.fell, vv, u7])) X (WoR p S vv u7 (((s7.un s1.over).skip.at t2).pass false) false R) := h11.put
        have hob : ((s1.over + 1 : Nat) : Int) ≤ 1000001 := by omega
        (try simp (maxSteps := 1000000) (dsimp := false) (disch := (first | omega | (simp only [okR]; done) | (simp only [sizeR] <;> omega) | fail)) only [↓preR, postR, ↓w_stop, Nat.reduceEqDiff, Nat.reduceAdd, Nat.reduceSub, Nat.reduceMul, Int.reduceNeg, Nat.reduceLT, Int.reduceToNat, Nat.reduceLeDiff, Nat.sub_zero, hv0, o11, ed])
        exact go5 _ h12
    clear hJ3
    have hov7 : s7.over = ((s1.skip.at t).pass (decide (¬ v = 0))).over := a7.over
    by_cases hv0 : v = 0
    · have e7 : s7.over = s1.over + 1 := by
        rw [decide_eq_false (fun h => h hv0)] at hov7
        exact hov7
      have ed : (s7.over : Int) - 1 = (s1.over : Int) := by omega
      have h9 : Hs (s8.put p (.cells [.string (bs S), .int .i64 (posS S s7.left), .int .i64 s1.over, .bool b7, .int .i64 s7.fell, vv, u7])) X (WoR p S vv u7 (s7.un s1.over) b7 R) := h7.put
      have hob : ((s1.over : Nat) : Int) ≤ 1000000 := by omega
      (try simp (maxSteps := 1000000) (dsimp := false) (disch := (first | omega | (simp only [okR]; done) | (simp only [sizeR] <;> omega) | fail)) only [↓preR, postR, ↓w_stop, Nat.reduceEqDiff, Nat.reduceAdd, Nat.reduceSub, Nat.reduceMul, Int.reduceNeg, Nat.reduceLT, Int.reduceToNat, Nat.reduceLeDiff, Nat.sub_zero, hv0, h7.obj, ed])
      exact go3 _ h9
    · have e7 : s7.un s1.over = s7 := by
        rw [decide_eq_true hv0] at hov7
        have e : s7.over = s1.over := hov7
        rw [← e]; rfl
      rw [e7] at go3
      (try simp (maxSteps := 1000000) (dsimp := false) (disch := (first | omega | (simp only [okR]; done) | (simp only [sizeR] <;> omega) | fail)) only [↓preR, postR, ↓w_stop, Nat.reduceEqDiff, Nat.reduceAdd, Nat.reduceSub, Nat.reduceMul, Int.reduceNeg, Nat.reduceLT, Int.reduceToNat, Nat.reduceLeDiff, Nat.sub_zero, hv0])
      exact go3 _ h7
  clear hJ2
  by_cases hv0 : v = 0
  · have e0 : decide (¬ v = 0) = false := decide_eq_false (fun h => h hv0)
    rw [e0] at go
    have ed : (s1.over : Int) + 1 = ((s1.over + 1 : Nat) : Int) := by omega
    have h6 : Hs (s5.put p (.cells [.string (bs S), .int .i64 (posS S t), .int .i64 ((s1.over + 1 : Nat) : Int), .bool false, .int .i64 s1.fell, vv, u1])) X (WoR p S vv u1 ((s1.skip.at t).pass false) false R) := h5.put
    have hob : ((s1.over + 1 : Nat) : Int) ≤ 1000001 := by omega
    (try simp (maxSteps := 1000000) (dsimp := false) (disch := (first | omega | (simp only [okR]; done) | (simp only [sizeR] <;> omega) | fail)) only [↓preR, postR, ↓w_stop, Nat.reduceEqDiff, Nat.reduceAdd, Nat.reduceSub, Nat.reduceMul, Int.reduceNeg, Nat.reduceLT, Int.reduceToNat, Nat.reduceLeDiff, Nat.sub_zero, hv0, o5, ed])
    exact go _ h6
  · have e0 : decide (¬ v = 0) = true := decide_eq_true hv0
    rw [e0] at go
    (try simp (maxSteps := 1000000) (dsimp := false) (disch := (first | omega | (simp only [okR]; done) | (simp only [sizeR] <;> omega) | fail)) only [↓preR, postR, ↓w_stop, Nat.reduceEqDiff, Nat.reduceAdd, Nat.reduceSub, Nat.reduceMul, Int.reduceNeg, Nat.reduceLT, Int.reduceToNat, Nat.reduceLeDiff, Nat.sub_zero, hv0])
    exact go _ h5
end
end Go.Proofs.YtkbpbagjbjkpmaaGreatDoor

/- Arithmetic, as the document's answer works it out: sides. Conditions: as each theorem says. -/
namespace Go.Proofs.YtkbpbagjbjkpmaaGreatDoor
open E Go.Lib
open Rp
set_option linter.unusedVariables false
set_option linter.unusedSimpArgs false
set_option maxHeartbeats 1000000
set_option maxRecDepth 20000

section
variable {X : Ce} {p : Nat} {S : Str} {vv : Value} {B : Nat} {σ : AS} {k : Value → AS → Prop} {vars : List (Str × Str)}
theorem sidesR_c {f r : Nat} (hr1 : 1 ≤ r) (hr : r ≤ 11) (hB : B ≤ 1000000) (hSl : S.length ≤ 1000000) (hV : VarsI X vv vars) (hL : LookI (lookV vars)) (ih : ∀ f0, f0 ≤ f → AllR X p S vv B (lookV vars) f0) : FnR X p S vv B (lookV vars) 88 [.int .i64 r] (.rank r) (f + 1) := by
  intro σ R k st b u hf hI hS h hk
  refine f88 ?_
  have hlB := hI.n
  (try simp (maxSteps := 1000000) (dsimp := false) (disch := (first | omega | (simp only [okR]; done) | (simp only [sizeR] <;> omega) | fail)) only [↓preR, postR, ↓w_stop, Nat.reduceEqDiff, Nat.reduceAdd, Nat.reduceSub, Nat.reduceMul, Int.reduceNeg, Nat.reduceLT, Int.reduceToNat, Nat.reduceLeDiff, Nat.sub_zero, F88])
  refine join_by fun J1 hJ1 => ?_
  by_cases h10 : 10 < r
  · have h10' : 10 < (r : Int) := by omega
    (try simp (maxSteps := 1000000) (dsimp := false) (disch := (first | omega | (simp only [okR]; done) | (simp only [sizeR] <;> omega) | fail)) only [↓preR, postR, ↓w_stop, Nat.reduceEqDiff, Nat.reduceAdd, Nat.reduceSub, Nat.reduceMul, Int.reduceNeg, Nat.reduceLT, Int.reduceToNat, Nat.reduceLeDiff, Nat.sub_zero, h10'])
    refine (ih f (Nat.le_refl _)).2.2.2 _ _ _ st b u (by simp only [needs] at hf ⊢; omega) hI hS h fun v st' b' u' s3 a q h3 => ?_
    (try simp (maxSteps := 1000000) (dsimp := false) (disch := (first | omega | (simp only [okR]; done) | (simp only [sizeR] <;> omega) | fail)) only [↓preR, postR, ↓w_stop, Nat.reduceEqDiff, Nat.reduceAdd, Nat.reduceSub, Nat.reduceMul, Int.reduceNeg, Nat.reduceLT, Int.reduceToNat, Nat.reduceLeDiff, Nat.sub_zero])
    refine hk v st' b' u' s3 ⟨a.num, a.over, a.lq, a.bad, fun hb => ?_⟩ q h3
    rw [ev_rank_hi h10]
    exact a.ok hb
  have h10' : ¬ 10 < (r : Int) := by omega
  have er : (r : Int) + 1 = ((r + 1 : Nat) : Int) := by omega
  (try simp (maxSteps := 1000000) (dsimp := false) (disch := (first | omega | (simp only [okR]; done) | (simp only [sizeR] <;> omega) | fail)) only [↓preR, postR, ↓w_stop, Nat.reduceEqDiff, Nat.reduceAdd, Nat.reduceSub, Nat.reduceMul, Int.reduceNeg, Nat.reduceLT, Int.reduceToNat, Nat.reduceLeDiff, Nat.sub_zero, h10'])
  refine hJ1 _ _ ?_
  clear hJ1
  (try simp (maxSteps := 1000000) (dsimp := false) (disch := (first | omega | (simp only [okR]; done) | (simp only [sizeR] <;> omega) | fail)) only [↓preR, postR, ↓w_stop, Nat.reduceEqDiff, Nat.reduceAdd, Nat.reduceSub, Nat.reduceMul, Int.reduceNeg, Nat.reduceLT, Int.reduceToNat, Nat.reduceLeDiff, Nat.sub_zero, er])
  refine (ih f (Nat.le_refl _)).2.2.1 (r + 1) (by omega) (by omega) _ _ _ st b u (by simp only [needs] at hf ⊢; omega) hI hS h fun v st1 b1 u1 s3 a q3 h3 => ?_
  have hl1 := a.lq.left
  (try simp (maxSteps := 1000000) (dsimp := false) (disch := (first | omega | (simp only [okR]; done) | (simp only [sizeR] <;> omega) | fail)) only [↓preR, postR, ↓w_stop, Nat.reduceEqDiff, Nat.reduceAdd, Nat.reduceSub, Nat.reduceMul, Int.reduceNeg, Nat.reduceLT, Int.reduceToNat, Nat.reduceLeDiff, Nat.sub_zero])
  refine op_c hSl q3 h3 fun s4 h4 => ?_
  (try simp (maxSteps := 1000000) (dsimp := false) (disch := (first | omega | (simp only [okR]; done) | (simp only [sizeR] <;> omega) | fail)) only [↓preR, postR, ↓w_stop, Nat.reduceEqDiff, Nat.reduceAdd, Nat.reduceSub, Nat.reduceMul, Int.reduceNeg, Nat.reduceLT, Int.reduceToNat, Nat.reduceLeDiff, Nat.sub_zero])
  refine join_by fun J2 hJ2 => ?_
  have fin : ∀ (v : Int) st' b' u' s5, After B (lookV vars) (f + 1) (.rank r) st b v st' b' → Suf S st'.left → Hs s5 X (WoR p S vv u' st' b' R) → J2 [.int .i64 v] s5 := by
    intro v st' b' u' s5 a' q' h5
    refine hJ2 _ _ ?_
    (try simp (maxSteps := 1000000) (dsimp := false) (disch := (first | omega | (simp only [okR]; done) | (simp only [sizeR] <;> omega) | fail)) only [↓preR, postR, ↓w_stop, Nat.reduceEqDiff, Nat.reduceAdd, Nat.reduceSub, Nat.reduceMul, Int.reduceNeg, Nat.reduceLT, Int.reduceToNat, Nat.reduceLeDiff, Nat.sub_zero])
    exact hk v st' b' u' s5 a' q' h5
  clear hJ2
  refine loop_inv (fun nn xs s5 => ∃ v st1 b1 u1, xs = [.int .i64 v, .string (bs (opT (nextP st1.skip.left))), .int .i64 (rankOf (nextP st1.skip.left))] ∧ LoopI B (lookV vars) f r st b v st1 b1 ∧ Suf S st1.left ∧ Hs s5 X (WoR p S vv u1 st1.skip b1 R) ∧ nn = st1.left.length) _ ⟨v, st1, b1, u1, rfl, ⟨a.num, a.over, a.lq, a.bad, fun h1 h0 => ?_, fun h1 => ?_⟩, q3, h4, rfl⟩ ?_
  · have h5 := a.ok h0
    rw [ev_rank_lo h10]
    cases he : ev (lookV vars) f (.rank (r + 1)) st with
    | none => rfl
    | some q =>
      rw [he] at h5
      obtain ⟨n, s5⟩ := q
      have := h5.2.2
      rw [h1] at this; cases this
  · have h0 : b = false := by
      cases b with
      | false => rfl
      | true => have := a.bad rfl; rw [h1] at this; cases this
    have h5 := a.ok h0
    have hl := a.lq.left
    refine ⟨f, Nat.le_refl _, by simp only [needs] at hf ⊢; omega, ?_⟩
    rw [ev_rank_lo h10]
    cases he : ev (lookV vars) f (.rank (r + 1)) st with
    | none => rw [he] at h5; have h5 : b1 = true := h5; rw [h1] at h5; cases h5
    | some q =>
      rw [he] at h5
      obtain ⟨n, s5⟩ := q
      obtain ⟨rfl, rfl, _⟩ := h5
      rfl
  clear hk a h3 h4 q3 hl1
  rintro _ _ s5 again ⟨v, st1, b1, u1, rfl, hI1, q1, h4, rfl⟩ hag
  (try simp (maxSteps := 1000000) (dsimp := false) (disch := (first | omega | (simp only [okR]; done) | (simp only [sizeR] <;> omega) | fail)) only [↓preR, postR, ↓w_stop, Nat.reduceEqDiff, Nat.reduceAdd, Nat.reduceSub, Nat.reduceMul, Int.reduceNeg, Nat.reduceLT, Int.reduceToNat, Nat.reduceLeDiff, Nat.sub_zero])
  refine join_by fun J4 hJ4 => ?_
  have o4 : s5.m p = some (.cells [.string (bs S), .int .i64 (posS S st1.skip.left), .int .i64 st1.over, .bool b1, .int .i64 st1.fell, vv, u1]) := h4.obj
  have qs : Suf S st1.skip.left := q1.skip
  cases b1 with
  | true =>
    (try simp (maxSteps := 1000000) (dsimp := false) (disch := (first | omega | (simp only [okR]; done) | (simp only [sizeR] <;> omega) | fail)) only [↓preR, postR, ↓w_stop, Nat.reduceEqDiff, Nat.reduceAdd, Nat.reduceSub, Nat.reduceMul, Int.reduceNeg, Nat.reduceLT, Int.reduceToNat, Nat.reduceLeDiff, Nat.sub_zero, o4])
    exact fin v st1.skip true u1 s5 ⟨hI1.num, hI1.over, hI1.lq.skip, fun _ => rfl, fun h0 => by rw [hI1.gone rfl h0]⟩ qs h4
  | false =>
    have hb : b = false := by
      cases b with
      | false => rfl
      | true => have := hI1.bad rfl; cases this
    obtain ⟨f1, hf1, hn1, he1⟩ := hI1.on rfl
    obtain ⟨f2, rfl⟩ : ∃ f2, f1 = f2 + 1 := ⟨f1 - 1, by simp only [needs] at hn1; omega⟩
    have hl1 := hI1.lq.left
    obtain ⟨op, hop⟩ : ∃ op, op = nextP st1.skip.left := ⟨_, rfl⟩
    rw [← hop] at hJ4 ⊢
    by_cases hrr : rankOf op = r
    rotate_left
    · have hrr' : ¬ (rankOf op : Int) = (r : Int) := by omega
      (try simp (maxSteps := 1000000) (dsimp := false) (disch := (first | omega | (simp only [okR]; done) | (simp only [sizeR] <;> omega) | fail)) only [↓preR, postR, ↓w_stop, Nat.reduceEqDiff, Nat.reduceAdd, Nat.reduceSub, Nat.reduceMul, Int.reduceNeg, Nat.reduceLT, Int.reduceToNat, Nat.reduceLeDiff, Nat.sub_zero, o4, hrr'])
      refine fin v st1.skip false u1 s5 ⟨hI1.num, hI1.over, hI1.lq.skip, fun h0 => (by rw [hb] at h0; cases h0), fun _ => ?_⟩ qs h4
      rw [he1, ev_loop_out (by rw [← hop]; exact hrr)]
      exact ⟨rfl, rfl, rfl⟩
    have hrr' : (rankOf op : Int) = (r : Int) := by omega
    have h0 : ¬ rankOf op = 0 := by omega
    have hopT : opT op = op := by unfold opT; rw [if_neg h0]
    rw [hopT] at hJ4
    (try simp (maxSteps := 1000000) (dsimp := false) (disch := (first | omega | (simp only [okR]; done) | (simp only [sizeR] <;> omega) | fail)) only [↓preR, postR, ↓w_stop, Nat.reduceEqDiff, Nat.reduceAdd, Nat.reduceSub, Nat.reduceMul, Int.reduceNeg, Nat.reduceLT, Int.reduceToNat, Nat.reduceLeDiff, Nat.sub_zero, o4, hrr'])
    refine hJ4 _ _ ?_
    clear hJ4
    have hsl : st1.skip.left.length ≤ st1.left.length := skip_len _
    have hop1 := rank_pos h0
    have hopl : op.length ≤ st1.skip.left.length := by rw [hop]; exact next_len _
    have en := posS_drop qs hopl
    have qd : Suf S (st1.skip.left.drop op.length) := qs.drop _
    have hps : ((posS S st1.skip.left : Nat) : Int) ≤ (S.length : Int) := by unfold posS; omega
    have hopl' : (op.length : Int) ≤ 2 := by omega
    have hpn : ((posS S (st1.skip.left.drop op.length) : Nat) : Int) ≤ (S.length : Int) := by unfold posS; omega
    have h8 : Hs (s5.put p (.cells [.string (bs S), .int .i64 (posS S (st1.skip.left.drop op.length)), .int .i64 st1.over, .bool false, .int .i64 st1.fell, vv, u1])) X (WoR p S vv u1 (st1.skip.at (st1.skip.left.drop op.length)) false R) := h4.put
    (try simp (maxSteps := 1000000) (dsimp := false) (disch := (first | omega | (simp only [okR]; done) | (simp only [sizeR] <;> omega) | fail)) only [↓preR, postR, ↓w_stop, Nat.reduceEqDiff, Nat.reduceAdd, Nat.reduceSub, Nat.reduceMul, Int.reduceNeg, Nat.reduceLT, Int.reduceToNat, Nat.reduceLeDiff, Nat.sub_zero, o4, en])
    generalize AS.put _ _ _ = s8 at h8 ⊢
    have hlq2 : Lq B st (st1.skip.at (st1.skip.left.drop op.length)) := hI1.lq.skip.at (by rw [List.length_drop]; omega)
    have hd : (st1.skip.left.drop op.length).length + 1 ≤ st1.left.length := by rw [List.length_drop]; omega
    have hei := ev_loop_in (look := lookV vars) (f := f2) (r := r) (a := v) (st := st1) (by rw [← hop]; exact hrr) (by omega)
    rw [← hop] at hei
    have hn2 : needs (.rank (r + 1)) (st1.skip.left.drop op.length).length ≤ f2 := by simp only [needs] at hn1 ⊢; omega
    -- is what follows passed over
    obtain ⟨is, his⟩ : ∃ is : Bool, is = (if r = 1 then decide (v = 0) else if r = 2 then decide (¬ v = 0) else true) := ⟨_, rfl⟩
    rw [← his] at hei
    have hsum := hI1.lq.sum
    have hov := hI1.over
    have hIp : InvS B ((st1.skip.at (st1.skip.left.drop op.length)).pass is) := by
      cases is with
      | true => exact hlq2.inv hI (Nat.le_of_eq hov)
      | false =>
        by_cases hx : r = 1 ∨ r = 2
        · exact .pass (by
            show st1.over + 1 + (st1.skip.left.drop op.length).length + st1.sets.length ≤ B
            omega) hlq2.s
        · rw [if_neg (fun h => hx (.inl h)), if_neg (fun h => hx (.inr h))] at his
          cases his
    have hlqp : Lq B st ((st1.skip.at (st1.skip.left.drop op.length)).pass is) := hlq2.same rfl rfl
    -- the test of the program
    have w1 : ∀ (K : AS → Value → Prop), K s8 (.bool (!is)) → (kGrd (.bool (decide ((r : Int) = 1))) true (fun k => kBin .neq (.int .i64 v) (.int .i64 0) fun v47 => k [v47] s8) [undef] s8 fun xs s => un1 xs fun v47 => kPick (.bool (decide ((r : Int) = 1))) v47 (.bool false) fun v48 =>
        kGrd v48 false (fun k => kBin .eql (.int .i64 r) (.int .i64 2) fun v51 => k [v51] s) [undef] s fun xs s => un1 xs fun v52 => kGrd v52 true (fun k => kBin .eql (.int .i64 v) (.int .i64 0) fun v54 => k [v54] s) [undef] s fun xs s => un1 xs fun v54 =>
        kGrd v48 false (fun k => kPick v52 v54 (.bool false) fun v55 => k [v55] s) [undef] s fun xs s => un1 xs fun v55 => kPick v48 (.bool true) v55 fun v56 => K s v56) := by
      intro K hK
      by_cases x1 : r = 1
      · rw [if_pos x1] at his
        have y1 : (r : Int) = 1 := by omega
        have y2 : ¬ (r : Int) = 2 := by omega
        by_cases v0 : v = 0
        · rw [decide_eq_true v0] at his
          rw [his] at hK
          (try simp (maxSteps := 1000000) (dsimp := false) (disch := (first | omega | (simp only [okR]; done) | (simp only [sizeR] <;> omega) | fail)) only [↓preR, postR, ↓w_stop, Nat.reduceEqDiff, Nat.reduceAdd, Nat.reduceSub, Nat.reduceMul, Int.reduceNeg, Nat.reduceLT, Int.reduceToNat, Nat.reduceLeDiff, Nat.sub_zero, y1, y2, v0])
          exact hK
        · rw [decide_eq_false v0] at his
          rw [his] at hK
          (try simp (maxSteps := 1000000) (dsimp := false) (disch := (first | omega | (simp only [okR]; done) | (simp only [sizeR] <;> omega) | fail)) only [↓preR, postR, ↓w_stop, Nat.reduceEqDiff, Nat.reduceAdd, Nat.reduceSub, Nat.reduceMul, Int.reduceNeg, Nat.reduceLT, Int.reduceToNat, Nat.reduceLeDiff, Nat.sub_zero, y1, y2, v0])
          exact hK
      rw [if_neg x1] at his
      have y1 : ¬ (r : Int) = 1 := by omega
      by_cases x2 : r = 2
      · rw [if_pos x2] at his
        have y2 : (r : Int) = 2 := by omega
        by_cases v0 : v = 0
        · rw [decide_eq_false (fun h => h v0)] at his
          rw [his] at hK
          (try simp (maxSteps := 1000000) (dsimp := false) (disch := (first | omega | (simp only [okR]; done) | (simp only [sizeR] <;> omega) | fail)) only [↓preR, postR, ↓w_stop, Nat.reduceEqDiff, Nat.reduceAdd, Nat.reduceSub, Nat.reduceMul, Int.reduceNeg, Nat.reduceLT, Int.reduceToNat, Nat.reduceLeDiff, Nat.sub_zero, y1, y2, v0])
          exact hK
        · have e : decide (¬ v = 0) = true := decide_eq_true v0
          rw [e] at his
          rw [his] at hK
          (try simp (maxSteps := 1000000) (dsimp := false) (disch := (first | omega | (simp only [okR]; done) | (simp only [sizeR] <;> omega) | fail)) only [↓preR, postR, ↓w_stop, Nat.reduceEqDiff, Nat.reduceAdd, Nat.reduceSub, Nat.reduceMul, Int.reduceNeg, Nat.reduceLT, Int.reduceToNat, Nat.reduceLeDiff, Nat.sub_zero, y1, y2, v0])
          exact hK
      · rw [if_neg x2] at his
        rw [his] at hK
        have y2 : ¬ (r : Int) = 2 := by omega
        (try simp (maxSteps := 1000000) (dsimp := false) (disch := (first | omega | (simp only [okR]; done) | (simp only [sizeR] <;> omega) | fail)) only [↓preR, postR, ↓w_stop, Nat.reduceEqDiff, Nat.reduceAdd, Nat.reduceSub, Nat.reduceMul, Int.reduceNeg, Nat.reduceLT, Int.reduceToNat, Nat.reduceLeDiff, Nat.sub_zero, y1, y2])
        exact hK
    refine w1 _ ?_
    clear w1
    (try simp (maxSteps := 1000000) (dsimp := false) (disch := (first | omega | (simp only [okR]; done) | (simp only [sizeR] <;> omega) | fail)) only [↓preR, postR, ↓w_stop, Nat.reduceEqDiff, Nat.reduceAdd, Nat.reduceSub, Nat.reduceMul, Int.reduceNeg, Nat.reduceLT, Int.reduceToNat, Nat.reduceLeDiff, Nat.sub_zero])
    refine join_by fun J5 hJ5 => ?_
    have go : ∀ s9, Hs s9 X (WoR p S vv u1 ((st1.skip.at (st1.skip.left.drop op.length)).pass is) false R) → J5 [] s9 := by
      intro s9 h9
      refine hJ5 _ _ ?_
      clear hJ5
      (try simp (maxSteps := 1000000) (dsimp := false) (disch := (first | omega | (simp only [okR]; done) | (simp only [sizeR] <;> omega) | fail)) only [↓preR, postR, ↓w_stop, Nat.reduceEqDiff, Nat.reduceAdd, Nat.reduceSub, Nat.reduceMul, Int.reduceNeg, Nat.reduceLT, Int.reduceToNat, Nat.reduceLeDiff, Nat.sub_zero, er])
      refine (ih f2 (by omega)).2.2.1 (r + 1) (by omega) (by omega) _ _ _ ((st1.skip.at (st1.skip.left.drop op.length)).pass is) false u1 hn2 hIp qd h9 fun w st3 b3 u3 s10 a3 q10 h10 => ?_
      have a4 := a3.ok rfl
      have hdl' : st3.left.length ≤ (st1.skip.left.drop op.length).length := a3.lq.left
      (try simp (maxSteps := 1000000) (dsimp := false) (disch := (first | omega | (simp only [okR]; done) | (simp only [sizeR] <;> omega) | fail)) only [↓preR, postR, ↓w_stop, Nat.reduceEqDiff, Nat.reduceAdd, Nat.reduceSub, Nat.reduceMul, Int.reduceNeg, Nat.reduceLT, Int.reduceToNat, Nat.reduceLeDiff, Nat.sub_zero])
      refine join_by fun J6 hJ6 => ?_
      have next : ∀ (y : Int) (st4 : ASt) s11, Hs s11 X (WoR p S vv u3 st4 b3 R) → inI64 y → st4.over = st1.over → st4.left = st3.left → st4.sets = st3.sets →
          (b3 = false → (if r = 1 then ev (lookV vars) f2 (.loop r (truthI (decide (¬ v = 0) || decide (¬ w = 0)))) (st3.un st1.over) else if r = 2 then ev (lookV vars) f2 (.loop r (truthI (decide (¬ v = 0) && decide (¬ w = 0)))) (st3.un st1.over) else ev (lookV vars) f2 (.loop r (doesP op v w (st3.un st1.over)).1) (doesP op v w (st3.un st1.over)).2) = ev (lookV vars) f2 (.loop r y) st4) →
          kCall Tryz.prog 106 [pvw p] s11 (fun v s => kExt 0 v fun v105 => kExt 1 v fun v106 => again [.int .i64 y, v105, v106] s) := by
        intro y st4 s11 h11 hy n1 n2 n3 n4
        refine op_c hSl (by rw [n2]; exact q10) h11 fun s12 h12 => ?_
        (try simp (maxSteps := 1000000) (dsimp := false) (disch := (first | omega | (simp only [okR]; done) | (simp only [sizeR] <;> omega) | fail)) only [↓preR, postR, ↓w_stop, Nat.reduceEqDiff, Nat.reduceAdd, Nat.reduceSub, Nat.reduceMul, Int.reduceNeg, Nat.reduceLT, Int.reduceToNat, Nat.reduceLeDiff, Nat.sub_zero])
        refine hag _ _ _ ⟨y, st4, b3, u3, rfl, ⟨hy, by rw [n1, hov], (hlqp.trans a3.lq).same n2 n3, fun h => (by rw [hb] at h; cases h), fun hb3 _ => ?_, fun hb3 => ?_⟩, by rw [n2]; exact q10, h12, rfl⟩ (by rw [n2]; omega)
        · rw [he1, hei]
          cases hq : ev (lookV vars) f2 (.rank (r + 1)) ((st1.skip.at (st1.skip.left.drop op.length)).pass is) with
          | none => rfl
          | some q =>
            rw [hq] at a4
            obtain ⟨n, s5⟩ := q
            have := a4.2.2
            rw [hb3] at this; cases this
        · refine ⟨f2, by omega, by rw [n2]; simp only [needs] at hn1 ⊢; omega, ?_⟩
          rw [he1, hei]
          cases hq : ev (lookV vars) f2 (.rank (r + 1)) ((st1.skip.at (st1.skip.left.drop op.length)).pass is) with
          | none => rw [hq] at a4; have a4 : b3 = true := a4; rw [hb3] at a4; cases a4
          | some q =>
            rw [hq] at a4
            obtain ⟨n, s5⟩ := q
            obtain ⟨rfl, rfl, _⟩ := a4
            exact n4 hb3
      have go6 : ∀ s11, Hs s11 X (WoR p S vv u3 (st3.un st1.over) b3 R) → J6 [] s11 := by
        intro s11 h11
        refine hJ6 _ _ ?_
        clear hJ6
        (try simp (maxSteps := 1000000) (dsimp := false) (disch := (first | omega | (simp only [okR]; done) | (simp only [sizeR] <;> omega) | fail)) only [↓preR, postR, ↓w_stop, Nat.reduceEqDiff, Nat.reduceAdd, Nat.reduceSub, Nat.reduceMul, Int.reduceNeg, Nat.reduceLT, Int.reduceToNat, Nat.reduceLeDiff, Nat.sub_zero])
        refine join_by fun J7 hJ7 => ?_
        by_cases x1 : r = 1
        · have y1 : (r : Int) = 1 := by omega
          by_cases v0 : v = 0
          · have nx := next (truthI (decide (¬ w = 0))) _ s11 h11 (truth_in _) rfl rfl rfl (fun _ => by rw [if_pos x1]; simp only [v0, not_true, decide_false, Bool.false_or])
            (try simp (maxSteps := 1000000) (dsimp := false) (disch := (first | omega | (simp only [okR]; done) | (simp only [sizeR] <;> omega) | fail)) only [↓preR, postR, ↓w_stop, Nat.reduceEqDiff, Nat.reduceAdd, Nat.reduceSub, Nat.reduceMul, Int.reduceNeg, Nat.reduceLT, Int.reduceToNat, Nat.reduceLeDiff, Nat.sub_zero, y1, v0])
            refine truth_c ?_
            (try simp (maxSteps := 1000000) (dsimp := false) (disch := (first | omega | (simp only [okR]; done) | (simp only [sizeR] <;> omega) | fail)) only [↓preR, postR, ↓w_stop, Nat.reduceEqDiff, Nat.reduceAdd, Nat.reduceSub, Nat.reduceMul, Int.reduceNeg, Nat.reduceLT, Int.reduceToNat, Nat.reduceLeDiff, Nat.sub_zero])
            refine hJ7 _ _ ?_
            (try simp (maxSteps := 1000000) (dsimp := false) (disch := (first | omega | (simp only [okR]; done) | (simp only [sizeR] <;> omega) | fail)) only [↓preR, postR, ↓w_stop, Nat.reduceEqDiff, Nat.reduceAdd, Nat.reduceSub, Nat.reduceMul, Int.reduceNeg, Nat.reduceLT, Int.reduceToNat, Nat.reduceLeDiff, Nat.sub_zero])
            first
              | exact nx
              | (rw [show (!decide (w = 0)) = decide (¬ w = 0) from (by simp)]; exact nx)
          · have nx := next (truthI true) _ s11 h11 (truth_in _) rfl rfl rfl (fun _ => by rw [if_pos x1]; simp only [v0, not_false_eq_true, decide_true, Bool.true_or])
            (try simp (maxSteps := 1000000) (dsimp := false) (disch := (first | omega | (simp only [okR]; done) | (simp only [sizeR] <;> omega) | fail)) only [↓preR, postR, ↓w_stop, Nat.reduceEqDiff, Nat.reduceAdd, Nat.reduceSub, Nat.reduceMul, Int.reduceNeg, Nat.reduceLT, Int.reduceToNat, Nat.reduceLeDiff, Nat.sub_zero, y1, v0])
            refine truth_c ?_
            (try simp (maxSteps := 1000000) (dsimp := false) (disch := (first | omega | (simp only [okR]; done) | (simp only [sizeR] <;> omega) | fail)) only [↓preR, postR, ↓w_stop, Nat.reduceEqDiff, Nat.reduceAdd, Nat.reduceSub, Nat.reduceMul, Int.reduceNeg, Nat.reduceLT, Int.reduceToNat, Nat.reduceLeDiff, Nat.sub_zero])
            refine hJ7 _ _ ?_
            (try simp (maxSteps := 1000000) (dsimp := false) (disch := (first | omega | (simp only [okR]; done) | (simp only [sizeR] <;> omega) | fail)) only [↓preR, postR, ↓w_stop, Nat.reduceEqDiff, Nat.reduceAdd, Nat.reduceSub, Nat.reduceMul, Int.reduceNeg, Nat.reduceLT, Int.reduceToNat, Nat.reduceLeDiff, Nat.sub_zero])
            exact nx
        have y1 : ¬ (r : Int) = 1 := by omega
        by_cases x2 : r = 2
        · have y2 : (r : Int) = 2 := by omega
          by_cases v0 : v = 0
          · have nx := next (truthI false) _ s11 h11 (truth_in _) rfl rfl rfl (fun _ => by rw [if_neg x1, if_pos x2]; simp only [v0, not_true, decide_false, Bool.false_and])
            (try simp (maxSteps := 1000000) (dsimp := false) (disch := (first | omega | (simp only [okR]; done) | (simp only [sizeR] <;> omega) | fail)) only [↓preR, postR, ↓w_stop, Nat.reduceEqDiff, Nat.reduceAdd, Nat.reduceSub, Nat.reduceMul, Int.reduceNeg, Nat.reduceLT, Int.reduceToNat, Nat.reduceLeDiff, Nat.sub_zero, y1, y2, v0])
            refine truth_c ?_
            (try simp (maxSteps := 1000000) (dsimp := false) (disch := (first | omega | (simp only [okR]; done) | (simp only [sizeR] <;> omega) | fail)) only [↓preR, postR, ↓w_stop, Nat.reduceEqDiff, Nat.reduceAdd, Nat.reduceSub, Nat.reduceMul, Int.reduceNeg, Nat.reduceLT, Int.reduceToNat, Nat.reduceLeDiff, Nat.sub_zero])
            refine hJ7 _ _ ?_
            (try simp (maxSteps := 1000000) (dsimp := false) (disch := (first | omega | (simp only [okR]; done) | (simp only [sizeR] <;> omega) | fail)) only [↓preR, postR, ↓w_stop, Nat.reduceEqDiff, Nat.reduceAdd, Nat.reduceSub, Nat.reduceMul, Int.reduceNeg, Nat.reduceLT, Int.reduceToNat, Nat.reduceLeDiff, Nat.sub_zero])
            exact nx
          · have nx := next (truthI (decide (¬ w = 0))) _ s11 h11 (truth_in _) rfl rfl rfl (fun _ => by rw [if_neg x1, if_pos x2]; simp only [v0, not_false_eq_true, decide_true, Bool.true_and])
            (try simp (maxSteps := 1000000) (dsimp := false) (disch := (first | omega | (simp only [okR]; done) | (simp only [sizeR] <;> omega) | fail)) only [↓preR, postR, ↓w_stop, Nat.reduceEqDiff, Nat.reduceAdd, Nat.reduceSub, Nat.reduceMul, Int.reduceNeg, Nat.reduceLT, Int.reduceToNat, Nat.reduceLeDiff, Nat.sub_zero, y1, y2, v0])
            refine truth_c ?_
            (try simp (maxSteps := 1000000) (dsimp := false) (disch := (first | omega | (simp only [okR]; done) | (simp only [sizeR] <;> omega) | fail)) only [↓preR, postR, ↓w_stop, Nat.reduceEqDiff, Nat.reduceAdd, Nat.reduceSub, Nat.reduceMul, Int.reduceNeg, Nat.reduceLT, Int.reduceToNat, Nat.reduceLeDiff, Nat.sub_zero])
            refine hJ7 _ _ ?_
            (try simp (maxSteps := 1000000) (dsimp := false) (disch := (first | omega | (simp only [okR]; done) | (simp only [sizeR] <;> omega) | fail)) only [↓preR, postR, ↓w_stop, Nat.reduceEqDiff, Nat.reduceAdd, Nat.reduceSub, Nat.reduceMul, Int.reduceNeg, Nat.reduceLT, Int.reduceToNat, Nat.reduceLeDiff, Nat.sub_zero])
            first
              | exact nx
              | (rw [show (!decide (w = 0)) = decide (¬ w = 0) from (by simp)]; exact nx)
        have y2 : ¬ (r : Int) = 2 := by omega
        (try simp (maxSteps := 1000000) (dsimp := false) (disch := (first | omega | (simp only [okR]; done) | (simp only [sizeR] <;> omega) | fail)) only [↓preR, postR, ↓w_stop, Nat.reduceEqDiff, Nat.reduceAdd, Nat.reduceSub, Nat.reduceMul, Int.reduceNeg, Nat.reduceLT, Int.reduceToNat, Nat.reduceLeDiff, Nat.sub_zero, y1, y2])
        refine of_c h0 (by omega) (by omega) hI1.num a3.num h11 fun s12 h12 => ?_
        have dk : (doesB op v w (st3.un st1.over) b3).2.over = st1.over ∧ (doesB op v w (st3.un st1.over) b3).2.left = st3.left ∧ (doesB op v w (st3.un st1.over) b3).2.sets = st3.sets ∧ inI64 (doesB op v w (st3.un st1.over) b3).1 := by
          unfold doesB
          split
          · exact ⟨rfl, rfl, rfl, by unfold inI64; omega⟩
          · exact does_ok op (st3.un st1.over) hI1.num a3.num
        (try simp (maxSteps := 1000000) (dsimp := false) (disch := (first | omega | (simp only [okR]; done) | (simp only [sizeR] <;> omega) | fail)) only [↓preR, postR, ↓w_stop, Nat.reduceEqDiff, Nat.reduceAdd, Nat.reduceSub, Nat.reduceMul, Int.reduceNeg, Nat.reduceLT, Int.reduceToNat, Nat.reduceLeDiff, Nat.sub_zero])
        refine hJ7 _ _ ?_
        (try simp (maxSteps := 1000000) (dsimp := false) (disch := (first | omega | (simp only [okR]; done) | (simp only [sizeR] <;> omega) | fail)) only [↓preR, postR, ↓w_stop, Nat.reduceEqDiff, Nat.reduceAdd, Nat.reduceSub, Nat.reduceMul, Int.reduceNeg, Nat.reduceLT, Int.reduceToNat, Nat.reduceLeDiff, Nat.sub_zero])
        exact next _ _ s12 h12 dk.2.2.2 dk.1 dk.2.1 dk.2.2.1 (fun hb3 => by rw [if_neg x1, if_neg x2, hb3]; rfl)
      clear hJ6 next
      have hov3 : st3.over = ((st1.skip.at (st1.skip.left.drop op.length)).pass is).over := a3.over
      cases is with
      | true =>
        have e3 : st3.un st1.over = st3 := by
          have e : st3.over = st1.over := hov3
          rw [← e]; rfl
        rw [e3] at go6
        (try simp (maxSteps := 1000000) (dsimp := false) (disch := (first | omega | (simp only [okR]; done) | (simp only [sizeR] <;> omega) | fail)) only [↓preR, postR, ↓w_stop, Nat.reduceEqDiff, Nat.reduceAdd, Nat.reduceSub, Nat.reduceMul, Int.reduceNeg, Nat.reduceLT, Int.reduceToNat, Nat.reduceLeDiff, Nat.sub_zero])
        exact go6 _ h10
      | false =>
        have e3 : st3.over = st1.over + 1 := hov3
        have ed : (st3.over : Int) - 1 = (st1.over : Int) := by omega
        have h11 : Hs (s10.put p (.cells [.string (bs S), .int .i64 (posS S st3.left), .int .i64 st1.over, .bool b3, .int .i64 st3.fell, vv, u3])) X (WoR p S vv u3 (st3.un st1.over) b3 R) := h10.put
        have hob : ((st1.over : Nat) : Int) ≤ 1000000 := by omega
        (try simp (maxSteps := 1000000) (dsimp := false) (disch := (first | omega | (simp only [okR]; done) | (simp only [sizeR] <;> omega) | fail)) only [↓preR, postR, ↓w_stop, Nat.reduceEqDiff, Nat.reduceAdd, Nat.reduceSub, Nat.reduceMul, Int.reduceNeg, Nat.reduceLT, Int.reduceToNat, Nat.reduceLeDiff, Nat.sub_zero, h10.obj, ed])
        exact go6 _ h11
    clear hJ5
    cases is with
    | true =>
      (try simp (maxSteps := 1000000) (dsimp := false) (disch := (first | omega | (simp only [okR]; done) | (simp only [sizeR] <;> omega) | fail)) only [↓preR, postR, ↓w_stop, Nat.reduceEqDiff, Nat.reduceAdd, Nat.reduceSub, Nat.reduceMul, Int.reduceNeg, Nat.reduceLT, Int.reduceToNat, Nat.reduceLeDiff, Nat.sub_zero])
      exact go _ h8
    | false =>
      have o8 : s8.m p = some (.cells [.string (bs S), .int .i64 (posS S (st1.skip.left.drop op.length)), .int .i64 st1.over, .bool false, .int .i64 st1.fell, vv, u1]) := h8.obj
      have ed : (st1.over : Int) + 1 = ((st1.over + 1 : Nat) : Int) := by omega
      have h9 : Hs (s8.put p (.cells [.string (bs S), .int .i64 (posS S (st1.skip.left.drop op.length)), .int .i64 ((st1.over + 1 : Nat) : Int), .bool false, .int .i64 st1.fell, vv, u1])) X (WoR p S vv u1 ((st1.skip.at (st1.skip.left.drop op.length)).pass false) false R) := h8.put
      have hob : ((st1.over + 1 : Nat) : Int) ≤ 1000001 := by omega
      (try simp (maxSteps := 1000000) (dsimp := false) (disch := (first | omega | (simp only [okR]; done) | (simp only [sizeR] <;> omega) | fail)) only [↓preR, postR, ↓w_stop, Nat.reduceEqDiff, Nat.reduceAdd, Nat.reduceSub, Nat.reduceMul, Int.reduceNeg, Nat.reduceLT, Int.reduceToNat, Nat.reduceLeDiff, Nat.sub_zero, o8, ed])
      exact go _ h9
end
end Go.Proofs.YtkbpbagjbjkpmaaGreatDoor

/- Arithmetic, as the document's answer works it out: what sets, the whole. Conditions: as each theorem says. -/
namespace Go.Proofs.YtkbpbagjbjkpmaaGreatDoor
open E Go.Lib
open Rp
set_option linter.unusedVariables false
set_option linter.unusedSimpArgs false
set_option maxHeartbeats 1000000
set_option maxRecDepth 20000

def five (a : UInt8) : Bool := decide (a = 43) || (decide (a = 45) || (decide (a = 42) || (decide (a = 47) || decide (a = 37))))
theorem five_in (a : UInt8) : signs5.contains a = five a := by
  by_cases h1 : a = 43
  · subst h1; rfl
  by_cases h2 : a = 45
  · subst h2; rfl
  by_cases h3 : a = 42
  · subst h3; rfl
  by_cases h4 : a = 47
  · subst h4; rfl
  by_cases h5 : a = 37
  · subst h5; rfl
  simp [five, h1, h2, h3, h4, h5]
theorem asgn_two' (a c : UInt8) : asgn [a, c] = (decide (c = 61) && five a) := by
  rw [asgn_two, five_in]
theorem two_len : ∀ {l : Str}, (l[1]?).getD 0 = 61 → 2 ≤ l.length
  | [], h => by cases h
  | [a], h => by cases h
  | a :: c :: t, h => by simp
theorem one_len : ∀ {l : Str}, ¬ (l[0]?).getD 0 = 0 → 1 ≤ l.length
  | [], h => absurd rfl h
  | a :: t, h => by simp
theorem five_op {a : UInt8} (h : five a = true) : (a = 43 ∨ a = 45 ∨ a = 42 ∨ a = 47 ∨ a = 37) ∧ rankOf [a, 61] = 0 ∧ ¬ rankOf [a] = 0 ∧ ¬ rankOf [a] = 1 ∧ ¬ rankOf [a] = 2 := by
  unfold five at h
  simp only [Bool.or_eq_true, decide_eq_true_eq] at h
  refine ⟨h, ?_⟩
  rcases h with rfl | rfl | rfl | rfl | rfl <;> decide
theorem asgn_one (a : UInt8) : asgn [a] = decide (a = 61) := by
  by_cases h : a = 61
  · subst h; rfl
  · rw [decide_eq_false h]
    unfold asgn
    split <;> first | rfl | simp_all
/-- What is set begins so. -/
theorem asgn_next (l : Str) : (five ((l[0]?).getD 0) = true → (((l[1]?).getD 0) = 61 → nextP l = [(l[0]?).getD 0, 61]) ∧ (¬ ((l[1]?).getD 0) = 61 → asgn (nextP l) = false)) ∧
    (five ((l[0]?).getD 0) = false → (((l[0]?).getD 0) = 61 → ¬ ((l[1]?).getD 0) = 61 → nextP l = [61]) ∧ ((((l[0]?).getD 0) = 61 → ((l[1]?).getD 0) = 61) → asgn (nextP l) = false)) := by
  match l with
  | [] => exact ⟨fun h => (by cases h), fun _ => ⟨fun h => (by cases h), fun _ => rfl⟩⟩
  | [a] =>
    refine ⟨fun h => ⟨fun h1 => (by cases h1), fun _ => ?_⟩, fun h => ⟨fun h1 _ => ?_, fun h1 => ?_⟩⟩
    · show asgn [a] = false
      rw [asgn_one, decide_eq_false]
      rintro rfl
      cases h
    · show [a] = [61]
      rw [show a = 61 from h1]
    · show asgn [a] = false
      rw [asgn_one, decide_eq_false]
      intro e
      have : (0 : UInt8) = 61 := h1 e
      cases this
  | a :: c :: t =>
    show (five a = true → (c = 61 → (if rankOf [a, c] ≠ 0 ∨ asgn [a, c] = true then [a, c] else [a]) = [a, 61]) ∧ (¬ c = 61 → asgn (if rankOf [a, c] ≠ 0 ∨ asgn [a, c] = true then [a, c] else [a]) = false)) ∧
      (five a = false → (a = 61 → ¬ c = 61 → (if rankOf [a, c] ≠ 0 ∨ asgn [a, c] = true then [a, c] else [a]) = [61]) ∧ ((a = 61 → c = 61) → asgn (if rankOf [a, c] ≠ 0 ∨ asgn [a, c] = true then [a, c] else [a]) = false))
    have e2 := asgn_two' a c
    refine ⟨fun h => ⟨fun h1 => ?_, fun h1 => ?_⟩, fun h => ⟨fun h1 h2 => ?_, fun h1 => ?_⟩⟩
    · subst h1
      rw [if_pos (.inr (by rw [e2, h]; rfl))]
    · rw [decide_eq_false h1, Bool.false_and] at e2
      split
      · exact e2
      · rw [asgn_one, decide_eq_false]
        rintro rfl
        cases h
    · subst h1
      rw [h, Bool.and_false] at e2
      rw [if_neg]
      rintro (h3 | h3)
      · apply h3
        unfold rankOf
        split <;> simp_all
      · rw [e2] at h3; cases h3
    · rw [h, Bool.and_false] at e2
      split
      · exact e2
      · rename_i h3
        rw [asgn_one, decide_eq_false]
        rintro rfl
        have hc := h1 rfl
        subst hc
        exact h3 (.inl (by decide))
section
variable {X : Ce} {p : Nat} {S : Str} {vv : Value} {B : Nat} {σ : AS} {k : Value → AS → Prop} {vars : List (Str × Str)}
theorem anyR_c {f : Nat} (hB : B ≤ 1000000) (hSl : S.length ≤ 1000000) (hV : VarsI X vv vars) (hL : LookI (lookV vars)) (ih : ∀ f0, f0 ≤ f → AllR X p S vv B (lookV vars) f0) : FnR X p S vv B (lookV vars) 23 [] .set (f + 1) := by
  intro σ R k st b u hf hI hS h hk
  refine f23 ?_
  have hlB := hI.n
  (try simp (maxSteps := 1000000) (dsimp := false) (disch := (first | omega | (simp only [okR]; done) | (simp only [sizeR] <;> omega) | fail)) only [↓preR, postR, ↓w_stop, Nat.reduceEqDiff, Nat.reduceAdd, Nat.reduceSub, Nat.reduceMul, Int.reduceNeg, Nat.reduceLT, Int.reduceToNat, Nat.reduceLeDiff, Nat.sub_zero, F23])
  refine rskip_c hSl hS h fun w0 s1 h1 => ?_
  have lq0 : Lq B st st.skip := (Lq.refl hI.s).skip
  have hsl : st.skip.left.length ≤ st.left.length := skip_len _
  have hS1 : Suf S st.skip.left := hS.skip
  have hl1 := hS1.len
  obtain ⟨n, hn⟩ : ∃ n, n = frontF 0 st.skip.left := ⟨_, rfl⟩
  have hfl : n ≤ st.skip.left.length := by rw [hn]; exact front_le _ _
  have o1 : s1.m p = some (.cells [.string (bs S), .int .i64 (posS S st.skip.left), .int .i64 st.over, .bool b, .int .i64 st.fell, vv, u]) := h1.obj
  have eS : S.drop (posS S st.skip.left) = st.skip.left := hS1.eq
  have hps : posS S st.skip.left ≤ S.length := Nat.sub_le _ _
  have hfull : List.take (S.length - posS S st.skip.left) (S.drop (posS S st.skip.left)) = st.skip.left := by
    rw [eS]
    exact List.take_of_length_le (by unfold posS; omega)
  (try simp (maxSteps := 1000000) (dsimp := false) (disch := (first | omega | (simp only [okR]; done) | (simp only [sizeR] <;> omega) | fail)) only [↓preR, postR, ↓w_stop, Nat.reduceEqDiff, Nat.reduceAdd, Nat.reduceSub, Nat.reduceMul, Int.reduceNeg, Nat.reduceLT, Int.reduceToNat, Nat.reduceLeDiff, Nat.sub_zero, o1, hfull])
  refine rfront_c (by unfold maxLen; omega) ?_
  rw [← hn]
  have out : ¬ (n ≠ 0 ∧ asgn (nextP (skipB (st.skip.left.drop n))) = true) → kCall Tryz.prog 62 [pvw p] s1 k := by
    intro hno
    refine (ih f (Nat.le_refl _)).2.1 _ _ _ st.skip b u (by show needs _ st.skip.left.length ≤ f; simp only [needs] at hf ⊢; omega) (lq0.inv hI (Nat.le_refl _)) hS1 h1 fun v st' b' u' s3 a q h3 => ?_
    refine hk v st' b' u' s3 ⟨a.num, a.over, lq0.trans a.lq, a.bad, fun hb => ?_⟩ q h3
    rw [ev_set_out (by rw [← hn]; exact hno)]
    exact a.ok hb
  (try simp (maxSteps := 1000000) (dsimp := false) (disch := (first | omega | (simp only [okR]; done) | (simp only [sizeR] <;> omega) | fail)) only [↓preR, postR, ↓w_stop, Nat.reduceEqDiff, Nat.reduceAdd, Nat.reduceSub, Nat.reduceMul, Int.reduceNeg, Nat.reduceLT, Int.reduceToNat, Nat.reduceLeDiff, Nat.sub_zero])
  refine join_by fun J1 hJ1 => ?_
  by_cases h0 : n = 0
  · subst h0
    (try simp (maxSteps := 1000000) (dsimp := false) (disch := (first | omega | (simp only [okR]; done) | (simp only [sizeR] <;> omega) | fail)) only [↓preR, postR, ↓w_stop, Nat.reduceEqDiff, Nat.reduceAdd, Nat.reduceSub, Nat.reduceMul, Int.reduceNeg, Nat.reduceLT, Int.reduceToNat, Nat.reduceLeDiff, Nat.sub_zero])
    exact out (fun h => h.1 rfl)
  have h0' : ¬ (n : Int) = 0 := by omega
  (try simp (maxSteps := 1000000) (dsimp := false) (disch := (first | omega | (simp only [okR]; done) | (simp only [sizeR] <;> omega) | fail)) only [↓preR, postR, ↓w_stop, Nat.reduceEqDiff, Nat.reduceAdd, Nat.reduceSub, Nat.reduceMul, Int.reduceNeg, Nat.reduceLT, Int.reduceToNat, Nat.reduceLeDiff, Nat.sub_zero, h0'])
  refine hJ1 _ _ ?_
  clear hJ1
  have en := posS_drop hS1 hfl
  have hSn := hS1.drop n
  have hpn : ((posS S (st.skip.left.drop n) : Nat) : Int) ≤ (S.length : Int) := by unfold posS; omega
  have hpd : posS S (st.skip.left.drop n) - posS S st.skip.left = n := by omega
  have htk : List.take n (S.drop (posS S st.skip.left)) = st.skip.left.take n := by rw [eS]
  have hple : posS S st.skip.left ≤ posS S (st.skip.left.drop n) := by omega
  obtain ⟨rest, hrest⟩ : ∃ r, r = skipB (st.skip.left.drop n) := ⟨_, rfl⟩
  have hSr : Suf S rest := by rw [hrest]; exact hSn.skip
  rw [← hrest] at out
  have hrl := hSr.len
  have hrn : rest.length + n ≤ st.skip.left.length := by
    have := skip_len (st.skip.left.drop n)
    rw [← hrest, List.length_drop] at this
    omega
  (try simp (maxSteps := 1000000) (dsimp := false) (disch := (first | omega | (simp only [okR]; done) | (simp only [sizeR] <;> omega) | fail)) only [↓preR, postR, ↓w_stop, Nat.reduceEqDiff, Nat.reduceAdd, Nat.reduceSub, Nat.reduceMul, Int.reduceNeg, Nat.reduceLT, Int.reduceToNat, Nat.reduceLeDiff, Nat.sub_zero, o1, en, hpd, htk])
  refine join_by fun J2 hJ2 => ?_
  have tail2 : J2 [.int .i64 (posS S rest)] s1 := by
    refine hJ2 _ _ ?_
    clear hJ2
    have gp0 : S[posS S rest]? = rest[0]? := hSr.get 0
    have gp1 : S[posS S rest + 1]? = rest[1]? := hSr.get 1
    have hpr : posS S rest ≤ S.length := Nat.sub_le _ _
    have e1 : ((posS S rest : Nat) : Int) + 1 = ((posS S rest + 1 : Nat) : Int) := by omega
    obtain ⟨A1, A2⟩ := asgn_next rest
    have hcat : ∀ x : UInt8, (rest[0]?).getD 0 = x → ¬ x = 0 → (S.drop (posS S rest)).take 1 = [x] ∧ 1 ≤ rest.length := by
      intro x hx hx0
      have e2 : S.drop (posS S rest) = rest := hSr.eq
      rw [e2]
      cases hr : rest with
      | nil => rw [hr] at hx; exact absurd hx.symm hx0
      | cons d t =>
        rw [hr] at hx
        have : d = x := hx
        subst this
        exact ⟨rfl, by simp⟩
    (try simp (maxSteps := 1000000) (dsimp := false) (disch := (first | omega | (simp only [okR]; done) | (simp only [sizeR] <;> omega) | fail)) only [↓preR, postR, ↓w_stop, Nat.reduceEqDiff, Nat.reduceAdd, Nat.reduceSub, Nat.reduceMul, Int.reduceNeg, Nat.reduceLT, Int.reduceToNat, Nat.reduceLeDiff, Nat.sub_zero])
    refine join_by fun J3 hJ3 => ?_
    (try simp (maxSteps := 1000000) (dsimp := false) (disch := (first | omega | (simp only [okR]; done) | (simp only [sizeR] <;> omega) | fail)) only [↓preR, postR, ↓w_stop, Nat.reduceEqDiff, Nat.reduceAdd, Nat.reduceSub, Nat.reduceMul, Int.reduceNeg, Nat.reduceLT, Int.reduceToNat, Nat.reduceLeDiff, Nat.sub_zero])
    refine sign_c (posS S rest) (by omega) h1 hSl ?_
    rw [gp0]
    obtain ⟨a, ha⟩ : ∃ a, a = (rest[0]?).getD 0 := ⟨_, rfl⟩
    obtain ⟨c, hc⟩ : ∃ c, c = (rest[1]?).getD 0 := ⟨_, rfl⟩
    rw [← ha] at A1 A2 hcat ⊢
    rw [← hc] at A1 A2
    -- what is set, and the way behind it
    have go : ∀ (o : Str) (kp L : Nat), asgn (nextP rest) = true → nextP rest = o ++ [61] → L = o.length + 1 → kp = posS S rest + o.length → L ≤ rest.length → o.length ≤ 1 → (S[kp]?).getD 0 = 61 → (o = [] → ¬ (S[kp + 1]?).getD 0 = 61) → J3 [.int .i64 kp, .string (bs o)] s1 := by
      intro o kp L hasg hnx hLn hkp hLr ho1 h61 hx
      refine hJ3 _ _ ?_
      clear hJ3 out
      have ekp : (kp : Int) + 1 = ((kp + 1 : Nat) : Int) := by omega
      have z61 : (((61 : UInt8).toNat : Nat) : Int) = 61 := rfl
      (try simp (maxSteps := 1000000) (dsimp := false) (disch := (first | omega | (simp only [okR]; done) | (simp only [sizeR] <;> omega) | fail)) only [↓preR, postR, ↓w_stop, Nat.reduceEqDiff, Nat.reduceAdd, Nat.reduceSub, Nat.reduceMul, Int.reduceNeg, Nat.reduceLT, Int.reduceToNat, Nat.reduceLeDiff, Nat.sub_zero])
      refine join_by fun J4 hJ4 => ?_
      have tail4 : J4 [] s1 := by
        refine hJ4 _ _ ?_
        clear hJ4
        have hSd : Suf S (rest.drop L) := hSr.drop L
        have eL : ((kp + 1 : Nat) : Int) = ((posS S (rest.drop L) : Nat) : Int) := by
          have := posS_drop hSr hLr
          omega
        have hpd2 : ((posS S (rest.drop L) : Nat) : Int) ≤ (S.length : Int) := by unfold posS; omega
        have h2 : Hs (s1.put p (.cells [.string (bs S), .int .i64 (posS S (rest.drop L)), .int .i64 st.over, .bool b, .int .i64 st.fell, vv, u])) X (WoR p S vv u (st.skip.at (rest.drop L)) b R) := h1.put
        (try simp (maxSteps := 1000000) (dsimp := false) (disch := (first | omega | (simp only [okR]; done) | (simp only [sizeR] <;> omega) | fail)) only [↓preR, postR, ↓w_stop, Nat.reduceEqDiff, Nat.reduceAdd, Nat.reduceSub, Nat.reduceMul, Int.reduceNeg, Nat.reduceLT, Int.reduceToNat, Nat.reduceLeDiff, Nat.sub_zero, o1, ekp, eL])
        generalize AS.put _ _ _ = s2 at h2 ⊢
        have hap := asgn_pos hasg
        have hlnx : (nextP rest).length = L := by rw [hnx, hLn]; simp
        have hdl : (rest.drop L).length + 1 ≤ st.skip.left.length := by rw [List.length_drop]; omega
        have hdl2 : (rest.drop L).length + 2 ≤ st.skip.left.length := by rw [List.length_drop]; omega
        have lqa : Lq B st (st.skip.at (rest.drop L)) := lq0.at (by omega)
        refine (ih f (Nat.le_refl _)).1 _ _ _ (st.skip.at (rest.drop L)) b u (by show needs _ (rest.drop L).length ≤ f; simp only [needs] at hf ⊢; omega) (lqa.inv hI (Nat.le_refl _)) hSd h2 fun v st2 b2 u2 s5 a q5 h5 => ?_
        (try simp (maxSteps := 1000000) (dsimp := false) (disch := (first | omega | (simp only [okR]; done) | (simp only [sizeR] <;> omega) | fail)) only [↓preR, postR, ↓w_stop, Nat.reduceEqDiff, Nat.reduceAdd, Nat.reduceSub, Nat.reduceMul, Int.reduceNeg, Nat.reduceLT, Int.reduceToNat, Nat.reduceLeDiff, Nat.sub_zero])
        refine join_by fun J5 hJ5 => ?_
        have etl : (st.skip.left.take n).length = n := by rw [List.length_take]; omega
        have hnl2 : (st.skip.left.take n).length ≤ B := by rw [etl]; omega
        have hl2 : st2.left.length ≤ (rest.drop L).length := a.lq.left
        have hsum2 : st2.left.length + st2.sets.length ≤ (rest.drop L).length + st.sets.length := a.lq.sum
        have lq2 : Lq B st st2 := lqa.trans a.lq
        have fin : ∀ (r : Int × ASt) (s6 : AS), r.2.over = st2.over → r.2.left = st2.left → r.2.sets = st2.sets → inI64 r.1 → (b2 = false → r = if nextP rest = [61] then (v, st2) else doesP ((nextP rest).take 1) (askP (lookV vars) st2 (st.skip.left.take n)).1 v (askP (lookV vars) st2 (st.skip.left.take n)).2) →
            Hs s6 X (WoR p S vv u2 r.2 b2 R) → J5 [.int .i64 r.1] s6 := by
          intro r s6 r1 r2 r3 r4 r5 h6
          refine hJ5 _ _ ?_
          clear hJ5
          (try simp (maxSteps := 1000000) (dsimp := false) (disch := (first | omega | (simp only [okR]; done) | (simp only [sizeR] <;> omega) | fail)) only [↓preR, postR, ↓w_stop, Nat.reduceEqDiff, Nat.reduceAdd, Nat.reduceSub, Nat.reduceMul, Int.reduceNeg, Nat.reduceLT, Int.reduceToNat, Nat.reduceLeDiff, Nat.sub_zero])
          refine join_by fun J6 hJ6 => ?_
          have tail : ∀ (u3 : Value) (s7 : AS), Hs s7 X (WoR p S vv u3 (if b2 = true then r.2 else pushP r.2 (st.skip.left.take n) r.1) b2 R) → J6 [] s7 := by
            intro u3 s7 h7
            refine hJ6 _ _ ?_
            (try simp (maxSteps := 1000000) (dsimp := false) (disch := (first | omega | (simp only [okR]; done) | (simp only [sizeR] <;> omega) | fail)) only [↓preR, postR, ↓w_stop, Nat.reduceEqDiff, Nat.reduceAdd, Nat.reduceSub, Nat.reduceMul, Int.reduceNeg, Nat.reduceLT, Int.reduceToNat, Nat.reduceLeDiff, Nat.sub_zero])
            have hpo := push_ok (st := st) (s := r.2) (name := st.skip.left.take n) (v := r.1) (lq2.same r2 r3) hnl2 r4 (by rw [r2, r3]; omega)
            refine hk r.1 (if b2 = true then r.2 else pushP r.2 (st.skip.left.take n) r.1) b2 u3 s7 ⟨r4, ?_, ?_, a.bad, fun hb => ?_⟩ ?_ h7
            · split
              · rw [r1]; exact a.over
              · rw [hpo.2, r1]; exact a.over
            · split
              · exact lq2.same r2 r3
              · exact hpo.1
            · have a4 := a.ok hb
              rw [ev_set_in (op := nextP rest) hn.symm h0 (by rw [← hrest]) hasg, ← hrest, hlnx]
              cases hq : ev (lookV vars) f .set (st.skip.at (rest.drop L)) with
              | none => rw [hq] at a4; exact a4
              | some q =>
                rw [hq] at a4
                obtain ⟨n4, s4'⟩ := q
                obtain ⟨rfl, rfl, hb2⟩ := a4
                subst hb2
                have := r5 rfl
                simp only [← this]
                exact ⟨trivial, rfl, trivial⟩
            · split
              · rw [r2]; exact q5
              · unfold pushP
                split
                · show Suf S r.2.left; rw [r2]; exact q5
                · rw [r2]; exact q5
          clear hJ6
          (try simp (maxSteps := 1000000) (dsimp := false) (disch := (first | omega | (simp only [okR]; done) | (simp only [sizeR] <;> omega) | fail)) only [↓preR, postR, ↓w_stop, Nat.reduceEqDiff, Nat.reduceAdd, Nat.reduceSub, Nat.reduceMul, Int.reduceNeg, Nat.reduceLT, Int.reduceToNat, Nat.reduceLeDiff, Nat.sub_zero])
          refine rlive_c h6 ?_
          cases hlv : r.2.live && !b2 with
          | false =>
            have e : (if b2 = true then r.2 else pushP r.2 (st.skip.left.take n) r.1) = r.2 := by
              cases b2 with
              | true => rfl
              | false =>
                rw [Bool.not_false, Bool.and_true] at hlv
                rw [if_neg (by decide)]
                unfold pushP
                rw [hlv, if_neg (by decide)]
            rw [e] at tail
            (try simp (maxSteps := 1000000) (dsimp := false) (disch := (first | omega | (simp only [okR]; done) | (simp only [sizeR] <;> omega) | fail)) only [↓preR, postR, ↓w_stop, Nat.reduceEqDiff, Nat.reduceAdd, Nat.reduceSub, Nat.reduceMul, Int.reduceNeg, Nat.reduceLT, Int.reduceToNat, Nat.reduceLeDiff, Nat.sub_zero])
            exact tail _ _ h6
          | true =>
            obtain ⟨hlv1, hb2⟩ := Bool.and_eq_true_iff.1 hlv
            have hb2 : b2 = false := by simpa using hb2
            subst hb2
            have e : (if false = true then r.2 else pushP r.2 (st.skip.left.take n) r.1) = { r.2 with sets := r.2.sets ++ [(st.skip.left.take n, r.1)] } := by
              rw [if_neg (by decide)]
              unfold pushP
              rw [if_pos hlv1]
            rw [e] at tail
            (try simp (maxSteps := 1000000) (dsimp := false) (disch := (first | omega | (simp only [okR]; done) | (simp only [sizeR] <;> omega) | fail)) only [↓preR, postR, ↓w_stop, Nat.reduceEqDiff, Nat.reduceAdd, Nat.reduceSub, Nat.reduceMul, Int.reduceNeg, Nat.reduceLT, Int.reduceToNat, Nat.reduceLeDiff, Nat.sub_zero, h6.obj])
            refine rtext_c r4 h6 fun s7 h7 => ?_
            have hsl7 : (setsT r.2).length ≤ 1000000 := by
              rw [List.length_map, r3]; omega
            have hit := itoa_len r4
            have hm1 : (st.skip.left.take n).length ≤ maxLen := by unfold maxLen; omega
            have hm2 : (itoa r.1).length ≤ maxLen := by unfold maxLen; omega
            have g7 := (h7.new (cs := [Value.string (bs (st.skip.left.take n)), Value.string (bs (itoa r.1))])).obj1
            (try simp (maxSteps := 1000000) (dsimp := false) (disch := (first | omega | (simp only [okR]; done) | (simp only [sizeR] <;> omega) | fail)) only [↓preR, postR, ↓w_stop, Nat.reduceEqDiff, Nat.reduceAdd, Nat.reduceSub, Nat.reduceMul, Int.reduceNeg, Nat.reduceLT, Int.reduceToNat, Nat.reduceLeDiff, Nat.sub_zero, h7.obj, g7])
            refine push_by h7.swap (e := 54) (bytes := 32) (by kernel_rfl) (by kernel_rfl) (a := (st.skip.left.take n, itoa r.1)) (news := [.string (bs (st.skip.left.take n)), .string (bs (itoa r.1))]) ⟨[.string (bs (st.skip.left.take n))], [.string (bs (itoa r.1))], rfl, ⟨rfl, hm1⟩, ⟨rfl, hm2⟩⟩ (by omega) (by unfold maxLen; omega) fun u3 s8 h8 => ?_
            have em : setsT r.2 ++ [(st.skip.left.take n, itoa r.1)] = setsT { r.2 with sets := r.2.sets ++ [(st.skip.left.take n, r.1)] } := by
              show _ = List.map _ (r.2.sets ++ [(st.skip.left.take n, r.1)])
              rw [List.map_append]
              rfl
            rw [em] at h8
            obtain ⟨ux, uc, rfl, _⟩ := h8.own
            have h9 : Hs (s8.put p (.cells [.string (bs S), .int .i64 (posS S r.2.left), .int .i64 r.2.over, .bool false, .int .i64 r.2.fell, vv, .slice ux (setsT { r.2 with sets := r.2.sets ++ [(st.skip.left.take n, r.1)] }).length uc])) X (WoR p S vv _ { r.2 with sets := r.2.sets ++ [(st.skip.left.take n, r.1)] } false R) := h8.swap.put
            (try simp (maxSteps := 1000000) (dsimp := false) (disch := (first | omega | (simp only [okR]; done) | (simp only [sizeR] <;> omega) | fail)) only [↓preR, postR, ↓w_stop, Nat.reduceEqDiff, Nat.reduceAdd, Nat.reduceSub, Nat.reduceMul, Int.reduceNeg, Nat.reduceLT, Int.reduceToNat, Nat.reduceLeDiff, Nat.sub_zero, h8.swap.obj])
            exact tail _ _ h9
        clear hJ5
        by_cases e6 : o = []
        · have n6 : nextP rest = [61] := by rw [hnx, e6]; rfl
          (try simp (maxSteps := 1000000) (dsimp := false) (disch := (first | omega | (simp only [okR]; done) | (simp only [sizeR] <;> omega) | fail)) only [↓preR, postR, ↓w_stop, Nat.reduceEqDiff, Nat.reduceAdd, Nat.reduceSub, Nat.reduceMul, Int.reduceNeg, Nat.reduceLT, Int.reduceToNat, Nat.reduceLeDiff, Nat.sub_zero, e6])
          exact fin (v, st2) _ rfl rfl rfl a.num (fun _ => by rw [if_pos n6]) h5
        · obtain ⟨x, rfl⟩ : ∃ x, o = [x] := by
            match o, e6, ho1 with
            | [], h, _ => exact absurd rfl h
            | [x], _, _ => exact ⟨x, rfl⟩
            | x :: y :: t, _, h => simp at h
          have n6 : ¬ nextP rest = [61] := by rw [hnx]; simp
          have ht1 : (nextP rest).take 1 = [x] := by rw [hnx]; rfl
          have hf5 : five x = true := by
            have := asgn_two' x 61
            have e : nextP rest = [x, 61] := hnx
            rw [e] at hasg
            rw [hasg] at this
            have := this.symm
            simpa using this
          have hrk := (five_op hf5).2.2
          (try simp (maxSteps := 1000000) (dsimp := false) (disch := (first | omega | (simp only [okR]; done) | (simp only [sizeR] <;> omega) | fail)) only [↓preR, postR, ↓w_stop, Nat.reduceEqDiff, Nat.reduceAdd, Nat.reduceSub, Nat.reduceMul, Int.reduceNeg, Nat.reduceLT, Int.reduceToNat, Nat.reduceLeDiff, Nat.sub_zero, e6])
          refine rask_c (B := B) hV a.lq.s (by omega) h5 fun s6 h6 => ?_
          have hask : (askB (lookV vars) st2 b2 (st.skip.left.take n)).2.over = st2.over ∧ (askB (lookV vars) st2 b2 (st.skip.left.take n)).2.left = st2.left ∧ (askB (lookV vars) st2 b2 (st.skip.left.take n)).2.sets = st2.sets ∧ inI64 (askB (lookV vars) st2 b2 (st.skip.left.take n)).1 := by
            unfold askB
            split
            · exact ⟨rfl, rfl, rfl, by unfold inI64; omega⟩
            · exact ask_ok hL a.lq.s _
          have heq : b2 = false → askB (lookV vars) st2 b2 (st.skip.left.take n) = askP (lookV vars) st2 (st.skip.left.take n) := fun h => by rw [h]; rfl
          generalize askB (lookV vars) st2 b2 (st.skip.left.take n) = qa at h6 hask heq ⊢
          obtain ⟨a1, sa⟩ := qa
          obtain ⟨k1, k2, k3, k4⟩ := hask
          (try simp (maxSteps := 1000000) (dsimp := false) (disch := (first | omega | (simp only [okR]; done) | (simp only [sizeR] <;> omega) | fail)) only [↓preR, postR, ↓w_stop, Nat.reduceEqDiff, Nat.reduceAdd, Nat.reduceSub, Nat.reduceMul, Int.reduceNeg, Nat.reduceLT, Int.reduceToNat, Nat.reduceLeDiff, Nat.sub_zero])
          refine of_c hrk.1 hrk.2.1 hrk.2.2 k4 a.num h6 fun s7 h7 => ?_
          have dk : (doesB [x] a1 v sa b2).2.over = sa.over ∧ (doesB [x] a1 v sa b2).2.left = sa.left ∧ (doesB [x] a1 v sa b2).2.sets = sa.sets ∧ inI64 (doesB [x] a1 v sa b2).1 := by
            unfold doesB
            split
            · exact ⟨rfl, rfl, rfl, by unfold inI64; omega⟩
            · exact does_ok [x] sa k4 a.num
          (try simp (maxSteps := 1000000) (dsimp := false) (disch := (first | omega | (simp only [okR]; done) | (simp only [sizeR] <;> omega) | fail)) only [↓preR, postR, ↓w_stop, Nat.reduceEqDiff, Nat.reduceAdd, Nat.reduceSub, Nat.reduceMul, Int.reduceNeg, Nat.reduceLT, Int.reduceToNat, Nat.reduceLeDiff, Nat.sub_zero])
          refine fin (doesB [x] a1 v sa b2) _ (dk.1.trans k1) (dk.2.1.trans k2) (dk.2.2.1.trans k3) dk.2.2.2 (fun hb2 => ?_) h7
          rw [if_neg n6, ht1, ← heq hb2, hb2]
          rfl
      clear hJ4
      (try simp (maxSteps := 1000000) (dsimp := false) (disch := (first | omega | (simp only [okR]; done) | (simp only [sizeR] <;> omega) | fail)) only [↓preR, postR, ↓w_stop, Nat.reduceEqDiff, Nat.reduceAdd, Nat.reduceSub, Nat.reduceMul, Int.reduceNeg, Nat.reduceLT, Int.reduceToNat, Nat.reduceLeDiff, Nat.sub_zero])
      refine sign_c kp (by omega) h1 hSl ?_
      rw [h61]
      by_cases e6 : o = []
      · have hx := hx e6
        have hnz : ¬ ((((S[kp + 1]?).getD 0).toNat : Nat) : Int) = 61 := fun e => hx (UInt8.toNat_inj.1 (by show _ = 61; omega))
        (try simp (maxSteps := 1000000) (dsimp := false) (disch := (first | omega | (simp only [okR]; done) | (simp only [sizeR] <;> omega) | fail)) only [↓preR, postR, ↓w_stop, Nat.reduceEqDiff, Nat.reduceAdd, Nat.reduceSub, Nat.reduceMul, Int.reduceNeg, Nat.reduceLT, Int.reduceToNat, Nat.reduceLeDiff, Nat.sub_zero, z61, e6, ekp])
        refine sign_c (kp + 1) (by omega) h1 hSl ?_
        (try simp (maxSteps := 1000000) (dsimp := false) (disch := (first | omega | (simp only [okR]; done) | (simp only [sizeR] <;> omega) | fail)) only [↓preR, postR, ↓w_stop, Nat.reduceEqDiff, Nat.reduceAdd, Nat.reduceSub, Nat.reduceMul, Int.reduceNeg, Nat.reduceLT, Int.reduceToNat, Nat.reduceLeDiff, Nat.sub_zero, hnz])
        exact tail4
      · (try simp (maxSteps := 1000000) (dsimp := false) (disch := (first | omega | (simp only [okR]; done) | (simp only [sizeR] <;> omega) | fail)) only [↓preR, postR, ↓w_stop, Nat.reduceEqDiff, Nat.reduceAdd, Nat.reduceSub, Nat.reduceMul, Int.reduceNeg, Nat.reduceLT, Int.reduceToNat, Nat.reduceLeDiff, Nat.sub_zero, z61, e6])
        exact tail4
    (try simp (maxSteps := 1000000) (dsimp := false) (disch := (first | omega | (simp only [okR]; done) | (simp only [sizeR] <;> omega) | fail)) only [↓preR, postR, ↓w_stop, Nat.reduceEqDiff, Nat.reduceAdd, Nat.reduceSub, Nat.reduceMul, Int.reduceNeg, Nat.reduceLT, Int.reduceToNat, Nat.reduceLeDiff, Nat.sub_zero])
    refine join_by fun J7 hJ7 => ?_
    have nq : ∀ (x y : UInt8), ¬ x = y → ¬ (x.toNat : Int) = (y.toNat : Int) := fun x y hd e => hd (UInt8.toNat_inj.1 (by omega))
    have z61 : (((61 : UInt8).toNat : Nat) : Int) = 61 := rfl
    have yes_ : five a = true → J7 [.bool true] s1 := by
      intro h5
      obtain ⟨B1, B2⟩ := A1 h5
      have ha0 : ¬ a = 0 := by rintro rfl; cases h5
      obtain ⟨t1, t2⟩ := hcat a rfl ha0
      have t3 : posS S rest + 1 - posS S rest = 1 := by omega
      have hk1 : posS S rest + 1 ≤ S.length := by unfold posS; omega
      have hk1' : ((posS S rest + 1 : Nat) : Int) ≤ (S.length : Int) := by omega
      refine hJ7 _ _ ?_
      clear hJ7
      by_cases hc61 : c = 61
      · have hgo := go [a] (posS S rest + 1) 2 (by rw [B1 hc61]; rw [asgn_two', h5]; rfl) (B1 hc61) rfl rfl (two_len (by rw [← hc]; exact hc61)) (Nat.le_refl _) (by rw [gp1, ← hc]; exact hc61) (fun h => by cases h)
        (try simp (maxSteps := 1000000) (dsimp := false) (disch := (first | omega | (simp only [okR]; done) | (simp only [sizeR] <;> omega) | fail)) only [↓preR, postR, ↓w_stop, Nat.reduceEqDiff, Nat.reduceAdd, Nat.reduceSub, Nat.reduceMul, Int.reduceNeg, Nat.reduceLT, Int.reduceToNat, Nat.reduceLeDiff, Nat.sub_zero, o1, e1, t1, t3])
        exact hgo
      · have hno := out (fun h => by rw [B2 hc61] at h; cases h.2)
        have m61 : ¬ (c.toNat : Int) = 61 := nq c 61 hc61
        (try simp (maxSteps := 1000000) (dsimp := false) (disch := (first | omega | (simp only [okR]; done) | (simp only [sizeR] <;> omega) | fail)) only [↓preR, postR, ↓w_stop, Nat.reduceEqDiff, Nat.reduceAdd, Nat.reduceSub, Nat.reduceMul, Int.reduceNeg, Nat.reduceLT, Int.reduceToNat, Nat.reduceLeDiff, Nat.sub_zero, o1, e1, t1, t3])
        refine hJ3 _ _ ?_
        (try simp (maxSteps := 1000000) (dsimp := false) (disch := (first | omega | (simp only [okR]; done) | (simp only [sizeR] <;> omega) | fail)) only [↓preR, postR, ↓w_stop, Nat.reduceEqDiff, Nat.reduceAdd, Nat.reduceSub, Nat.reduceMul, Int.reduceNeg, Nat.reduceLT, Int.reduceToNat, Nat.reduceLeDiff, Nat.sub_zero])
        refine join_now ?_
        (try simp (maxSteps := 1000000) (dsimp := false) (disch := (first | omega | (simp only [okR]; done) | (simp only [sizeR] <;> omega) | fail)) only [↓preR, postR, ↓w_stop, Nat.reduceEqDiff, Nat.reduceAdd, Nat.reduceSub, Nat.reduceMul, Int.reduceNeg, Nat.reduceLT, Int.reduceToNat, Nat.reduceLeDiff, Nat.sub_zero])
        refine sign_c (posS S rest + 1) (by omega) h1 hSl ?_
        rw [gp1, ← hc]
        (try simp (maxSteps := 1000000) (dsimp := false) (disch := (first | omega | (simp only [okR]; done) | (simp only [sizeR] <;> omega) | fail)) only [↓preR, postR, ↓w_stop, Nat.reduceEqDiff, Nat.reduceAdd, Nat.reduceSub, Nat.reduceMul, Int.reduceNeg, Nat.reduceLT, Int.reduceToNat, Nat.reduceLeDiff, Nat.sub_zero, m61])
        exact hno
    have no_ : five a = false → J7 [.bool false] s1 := by
      intro h5
      obtain ⟨B1, B2⟩ := A2 h5
      refine hJ7 _ _ ?_
      clear hJ7
      by_cases ha61 : a = 61
      · have hl1 : 1 ≤ rest.length := one_len (by rw [← ha, ha61]; decide)
        by_cases hc61 : c = 61
        · have hno := out (fun h => by rw [B2 (fun _ => hc61)] at h; cases h.2)
          have m61 : (a.toNat : Int) = 61 := by rw [ha61]; rfl
          have m61c : (c.toNat : Int) = 61 := by rw [hc61]; rfl
          have hk1' : ((posS S rest + 1 : Nat) : Int) ≤ (S.length : Int) := by unfold posS; omega
          (try simp (maxSteps := 1000000) (dsimp := false) (disch := (first | omega | (simp only [okR]; done) | (simp only [sizeR] <;> omega) | fail)) only [↓preR, postR, ↓w_stop, Nat.reduceEqDiff, Nat.reduceAdd, Nat.reduceSub, Nat.reduceMul, Int.reduceNeg, Nat.reduceLT, Int.reduceToNat, Nat.reduceLeDiff, Nat.sub_zero])
          refine hJ3 _ _ ?_
          (try simp (maxSteps := 1000000) (dsimp := false) (disch := (first | omega | (simp only [okR]; done) | (simp only [sizeR] <;> omega) | fail)) only [↓preR, postR, ↓w_stop, Nat.reduceEqDiff, Nat.reduceAdd, Nat.reduceSub, Nat.reduceMul, Int.reduceNeg, Nat.reduceLT, Int.reduceToNat, Nat.reduceLeDiff, Nat.sub_zero])
          refine join_now ?_
          (try simp (maxSteps := 1000000) (dsimp := false) (disch := (first | omega | (simp only [okR]; done) | (simp only [sizeR] <;> omega) | fail)) only [↓preR, postR, ↓w_stop, Nat.reduceEqDiff, Nat.reduceAdd, Nat.reduceSub, Nat.reduceMul, Int.reduceNeg, Nat.reduceLT, Int.reduceToNat, Nat.reduceLeDiff, Nat.sub_zero])
          refine sign_c (posS S rest) (by omega) h1 hSl ?_
          rw [gp0, ← ha]
          (try simp (maxSteps := 1000000) (dsimp := false) (disch := (first | omega | (simp only [okR]; done) | (simp only [sizeR] <;> omega) | fail)) only [↓preR, postR, ↓w_stop, Nat.reduceEqDiff, Nat.reduceAdd, Nat.reduceSub, Nat.reduceMul, Int.reduceNeg, Nat.reduceLT, Int.reduceToNat, Nat.reduceLeDiff, Nat.sub_zero, m61, e1])
          refine sign_c (posS S rest + 1) (by omega) h1 hSl ?_
          rw [gp1, ← hc]
          (try simp (maxSteps := 1000000) (dsimp := false) (disch := (first | omega | (simp only [okR]; done) | (simp only [sizeR] <;> omega) | fail)) only [↓preR, postR, ↓w_stop, Nat.reduceEqDiff, Nat.reduceAdd, Nat.reduceSub, Nat.reduceMul, Int.reduceNeg, Nat.reduceLT, Int.reduceToNat, Nat.reduceLeDiff, Nat.sub_zero, m61c])
          exact hno
        · have hgo := go [] (posS S rest) 1 (by rw [B1 ha61 hc61]; rfl) (B1 ha61 hc61) rfl rfl hl1 (Nat.zero_le _) (by rw [gp0, ← ha]; exact ha61) (fun _ => by rw [gp1, ← hc]; exact hc61)
          (try simp (maxSteps := 1000000) (dsimp := false) (disch := (first | omega | (simp only [okR]; done) | (simp only [sizeR] <;> omega) | fail)) only [↓preR, postR, ↓w_stop, Nat.reduceEqDiff, Nat.reduceAdd, Nat.reduceSub, Nat.reduceMul, Int.reduceNeg, Nat.reduceLT, Int.reduceToNat, Nat.reduceLeDiff, Nat.sub_zero])
          exact hgo
      · have hno := out (fun h => by rw [B2 (fun e => absurd e ha61)] at h; cases h.2)
        have m61 : ¬ (a.toNat : Int) = 61 := nq a 61 ha61
        (try simp (maxSteps := 1000000) (dsimp := false) (disch := (first | omega | (simp only [okR]; done) | (simp only [sizeR] <;> omega) | fail)) only [↓preR, postR, ↓w_stop, Nat.reduceEqDiff, Nat.reduceAdd, Nat.reduceSub, Nat.reduceMul, Int.reduceNeg, Nat.reduceLT, Int.reduceToNat, Nat.reduceLeDiff, Nat.sub_zero])
        refine hJ3 _ _ ?_
        (try simp (maxSteps := 1000000) (dsimp := false) (disch := (first | omega | (simp only [okR]; done) | (simp only [sizeR] <;> omega) | fail)) only [↓preR, postR, ↓w_stop, Nat.reduceEqDiff, Nat.reduceAdd, Nat.reduceSub, Nat.reduceMul, Int.reduceNeg, Nat.reduceLT, Int.reduceToNat, Nat.reduceLeDiff, Nat.sub_zero])
        refine join_now ?_
        (try simp (maxSteps := 1000000) (dsimp := false) (disch := (first | omega | (simp only [okR]; done) | (simp only [sizeR] <;> omega) | fail)) only [↓preR, postR, ↓w_stop, Nat.reduceEqDiff, Nat.reduceAdd, Nat.reduceSub, Nat.reduceMul, Int.reduceNeg, Nat.reduceLT, Int.reduceToNat, Nat.reduceLeDiff, Nat.sub_zero])
        refine sign_c (posS S rest) (by omega) h1 hSl ?_
        rw [gp0, ← ha]
        (try simp (maxSteps := 1000000) (dsimp := false) (disch := (first | omega | (simp only [okR]; done) | (simp only [sizeR] <;> omega) | fail)) only [↓preR, postR, ↓w_stop, Nat.reduceEqDiff, Nat.reduceAdd, Nat.reduceSub, Nat.reduceMul, Int.reduceNeg, Nat.reduceLT, Int.reduceToNat, Nat.reduceLeDiff, Nat.sub_zero, m61])
        exact hno
    clear hJ7 go hJ3
    by_cases c1 : a = 43
    · have m1 : (a.toNat : Int) = 43 := by rw [c1]; rfl
      (try simp (maxSteps := 1000000) (dsimp := false) (disch := (first | omega | (simp only [okR]; done) | (simp only [sizeR] <;> omega) | fail)) only [↓preR, postR, ↓w_stop, Nat.reduceEqDiff, Nat.reduceAdd, Nat.reduceSub, Nat.reduceMul, Int.reduceNeg, Nat.reduceLT, Int.reduceToNat, Nat.reduceLeDiff, Nat.sub_zero, m1])
      exact yes_ (by rw [c1]; rfl)
    have m1 : ¬ (a.toNat : Int) = 43 := nq a 43 c1
    by_cases c2 : a = 45
    · have m2 : (a.toNat : Int) = 45 := by rw [c2]; rfl
      (try simp (maxSteps := 1000000) (dsimp := false) (disch := (first | omega | (simp only [okR]; done) | (simp only [sizeR] <;> omega) | fail)) only [↓preR, postR, ↓w_stop, Nat.reduceEqDiff, Nat.reduceAdd, Nat.reduceSub, Nat.reduceMul, Int.reduceNeg, Nat.reduceLT, Int.reduceToNat, Nat.reduceLeDiff, Nat.sub_zero, m1, m2])
      exact yes_ (by rw [c2]; rfl)
    have m2 : ¬ (a.toNat : Int) = 45 := nq a 45 c2
    by_cases c3 : a = 42
    · have m3 : (a.toNat : Int) = 42 := by rw [c3]; rfl
      (try simp (maxSteps := 1000000) (dsimp := false) (disch := (first | omega | (simp only [okR]; done) | (simp only [sizeR] <;> omega) | fail)) only [↓preR, postR, ↓w_stop, Nat.reduceEqDiff, Nat.reduceAdd, Nat.reduceSub, Nat.reduceMul, Int.reduceNeg, Nat.reduceLT, Int.reduceToNat, Nat.reduceLeDiff, Nat.sub_zero, m1, m2, m3])
      exact yes_ (by rw [c3]; rfl)
    have m3 : ¬ (a.toNat : Int) = 42 := nq a 42 c3
    by_cases c4 : a = 47
    · have m4 : (a.toNat : Int) = 47 := by rw [c4]; rfl
      (try simp (maxSteps := 1000000) (dsimp := false) (disch := (first | omega | (simp only [okR]; done) | (simp only [sizeR] <;> omega) | fail)) only [↓preR, postR, ↓w_stop, Nat.reduceEqDiff, Nat.reduceAdd, Nat.reduceSub, Nat.reduceMul, Int.reduceNeg, Nat.reduceLT, Int.reduceToNat, Nat.reduceLeDiff, Nat.sub_zero, m1, m2, m3, m4])
      exact yes_ (by rw [c4]; rfl)
    have m4 : ¬ (a.toNat : Int) = 47 := nq a 47 c4
    by_cases c5 : a = 37
    · have m5 : (a.toNat : Int) = 37 := by rw [c5]; rfl
      (try simp (maxSteps := 1000000) (dsimp := false) (disch := (first | omega | (simp only [okR]; done) | (simp only [sizeR] <;> omega) | fail)) only [↓preR, postR, ↓w_stop, Nat.reduceEqDiff, Nat.reduceAdd, Nat.reduceSub, Nat.reduceMul, Int.reduceNeg, Nat.reduceLT, Int.reduceToNat, Nat.reduceLeDiff, Nat.sub_zero, m1, m2, m3, m4, m5])
      exact yes_ (by rw [c5]; rfl)
    have m5 : ¬ (a.toNat : Int) = 37 := nq a 37 c5
    (try simp (maxSteps := 1000000) (dsimp := false) (disch := (first | omega | (simp only [okR]; done) | (simp only [sizeR] <;> omega) | fail)) only [↓preR, postR, ↓w_stop, Nat.reduceEqDiff, Nat.reduceAdd, Nat.reduceSub, Nat.reduceMul, Int.reduceNeg, Nat.reduceLT, Int.reduceToNat, Nat.reduceLeDiff, Nat.sub_zero, m1, m2, m3, m4, m5])
    exact no_ (by simp [five, c1, c2, c3, c4, c5])
  clear hJ2
  refine loop_inv (fun nn xs s2 => ∃ l : Str, xs = [.int .i64 (posS S l)] ∧ s1 = s2 ∧ Suf S l ∧ skipB l = rest ∧ nn = l.length) _ ⟨st.skip.left.drop n, rfl, rfl, hSn, hrest.symm, rfl⟩ ?_
  rintro _ _ s2 again ⟨l, rfl, rfl, hl, hlr, rfl⟩ hag
  have hll := hl.len
  have gpl : S[posS S l]? = l[0]? := hl.get 0
  have hpl : posS S l ≤ S.length := Nat.sub_le _ _
  (try simp (maxSteps := 1000000) (dsimp := false) (disch := (first | omega | (simp only [okR]; done) | (simp only [sizeR] <;> omega) | fail)) only [↓preR, postR, ↓w_stop, Nat.reduceEqDiff, Nat.reduceAdd, Nat.reduceSub, Nat.reduceMul, Int.reduceNeg, Nat.reduceLT, Int.reduceToNat, Nat.reduceLeDiff, Nat.sub_zero])
  refine join_by fun J9 hJ9 => ?_
  (try simp (maxSteps := 1000000) (dsimp := false) (disch := (first | omega | (simp only [okR]; done) | (simp only [sizeR] <;> omega) | fail)) only [↓preR, postR, ↓w_stop, Nat.reduceEqDiff, Nat.reduceAdd, Nat.reduceSub, Nat.reduceMul, Int.reduceNeg, Nat.reduceLT, Int.reduceToNat, Nat.reduceLeDiff, Nat.sub_zero])
  refine sign_c (posS S l) (by omega) h1 hSl ?_
  rw [gpl]
  (try simp (maxSteps := 1000000) (dsimp := false) (disch := (first | omega | (simp only [okR]; done) | (simp only [sizeR] <;> omega) | fail)) only [↓preR, postR, ↓w_stop, Nat.reduceEqDiff, Nat.reduceAdd, Nat.reduceSub, Nat.reduceMul, Int.reduceNeg, Nat.reduceLT, Int.reduceToNat, Nat.reduceLeDiff, Nat.sub_zero])
  refine blank_c ?_
  cases l with
  | nil =>
    have hlr : rest = [] := hlr.symm
    rw [hlr] at tail2
    have e0 : decide (blkB (([] : Str)[0]?.getD 0)) = false := by decide
    rw [e0]
    (try simp (maxSteps := 1000000) (dsimp := false) (disch := (first | omega | (simp only [okR]; done) | (simp only [sizeR] <;> omega) | fail)) only [↓preR, postR, ↓w_stop, Nat.reduceEqDiff, Nat.reduceAdd, Nat.reduceSub, Nat.reduceMul, Int.reduceNeg, Nat.reduceLT, Int.reduceToNat, Nat.reduceLeDiff, Nat.sub_zero])
    exact tail2
  | cons d t =>
    rw [skip_cons] at hlr
    have ed : (d :: t)[0]?.getD 0 = d := rfl
    rw [ed]
    have ep := posS_cons hl
    have hpt : ((posS S t : Nat) : Int) ≤ (S.length : Int) := by unfold posS; omega
    by_cases hb : blkB d
    · rw [if_pos hb] at hlr
      (try simp (maxSteps := 1000000) (dsimp := false) (disch := (first | omega | (simp only [okR]; done) | (simp only [sizeR] <;> omega) | fail)) only [↓preR, postR, ↓w_stop, Nat.reduceEqDiff, Nat.reduceAdd, Nat.reduceSub, Nat.reduceMul, Int.reduceNeg, Nat.reduceLT, Int.reduceToNat, Nat.reduceLeDiff, Nat.sub_zero, hb])
      refine hJ9 _ _ ?_
      (try simp (maxSteps := 1000000) (dsimp := false) (disch := (first | omega | (simp only [okR]; done) | (simp only [sizeR] <;> omega) | fail)) only [↓preR, postR, ↓w_stop, Nat.reduceEqDiff, Nat.reduceAdd, Nat.reduceSub, Nat.reduceMul, Int.reduceNeg, Nat.reduceLT, Int.reduceToNat, Nat.reduceLeDiff, Nat.sub_zero, ep])
      exact hag _ _ _ ⟨t, rfl, rfl, hl.tail, hlr, rfl⟩ (by simp)
    · rw [if_neg hb] at hlr
      rw [← hlr] at tail2
      (try simp (maxSteps := 1000000) (dsimp := false) (disch := (first | omega | (simp only [okR]; done) | (simp only [sizeR] <;> omega) | fail)) only [↓preR, postR, ↓w_stop, Nat.reduceEqDiff, Nat.reduceAdd, Nat.reduceSub, Nat.reduceMul, Int.reduceNeg, Nat.reduceLT, Int.reduceToNat, Nat.reduceLeDiff, Nat.sub_zero, hb])
      exact tail2
end
end Go.Proofs.YtkbpbagjbjkpmaaGreatDoor

/- Values and expressions: the program answers as the document does. Conditions: as each theorem says. -/
namespace Go.Proofs.YtkbpbagjbjkpmaaGreatDoor
open E Go.Lib
open Rp
set_option linter.unusedVariables false
set_option linter.unusedSimpArgs false
set_option maxHeartbeats 1000000
set_option maxRecDepth 20000

theorem allR_c {X : Ce} {p : Nat} {S : Str} {vv : Value} {B : Nat} {vars : List (Str × Str)} (hB : B ≤ 1000000) (hSl : S.length ≤ 1000000) (hV : VarsI X vv vars) (hL : LookI (lookV vars)) : ∀ f n, n ≤ f → AllR X p S vv B (lookV vars) n := by
  intro f
  induction f with
  | zero =>
    intro n hn
    have : n = 0 := by omega
    subst this
    exact ⟨fun σ R k st b u h => absurd h (needs_pos fun r h => by cases h), fun σ R k st b u h => absurd h (needs_pos fun r h => by cases h), fun r _ hr σ R k st b u h => absurd h (needs_pos fun r h => by cases h; exact hr), fun σ R k st b u h => absurd h (needs_pos fun r h => by cases h)⟩
  | succ f ih =>
    intro n hn
    by_cases h : n ≤ f
    · exact ih n h
    · have : n = f + 1 := by omega
      subst this
      exact ⟨anyR_c hB hSl hV hL ih, choiceR_c hB hSl hV hL (ih f (Nat.le_refl _)), fun r h1 h2 => sidesR_c h1 h2 hB hSl hV hL ih, opndR_c hB hSl hV hL (ih f (Nat.le_refl _))⟩
theorem few_vars {X : Ce} {vv : Value} {l : List (Str × Str)} (hr : RepL X vv l) (hf : fewP l = true) : VarsI X vv l ∧ l.length ≤ 30 := by
  unfold fewP at hf
  obtain ⟨h1, h2⟩ := Bool.and_eq_true_iff.1 hf
  refine ⟨⟨hr, fun p hp => ?_⟩, of_decide_eq_true h1⟩
  have := List.all_eq_true.1 h2 p hp
  unfold few1 at this
  have := of_decide_eq_true (Bool.and_eq_true_iff.1 this).2
  omega
theorem evalG_sets {l : List (Str × Str)} {F : Nat} {s : Str} : (evalG (lookV l) F s).2.1.length ≤ 4096 := by
  unfold evalG
  split
  · exact Nat.zero_le _
  · rename_i hs
    split
    · exact Nat.zero_le _
    · split
      · exact Nat.zero_le _
      · rename_i n st hev
        split
        · exact Nat.zero_le _
        · split
          · exact Nat.zero_le _
          · have hI : InvS 4096 ⟨skipB s, 0, 0, []⟩ := ⟨by show 0 + (skipB s).length + 0 ≤ 4096; have := skip_len s; omega, setsI_nil _⟩
            have := (ev_ok (look_all l) _ _ _ _ _ hev hI trivial).inv hI
            have := this.n
            show st.sets.length ≤ 4096
            omega
section
variable {X : Ce} {σ : AS} {R : List Ck} {k : Value → AS → Prop} {vv v u : Value} {s : Str} {g i : Nat} {o : Go.Obj} {vars l : List (Str × Str)} {F : Nat}
theorem reval_c (hV : VarsI X vv vars) (hL : LookI (lookV vars)) (hs : s.length ≤ maxLen) (hF : evF s ≤ F) (h : Hs σ X R)
    (hk : ∀ u X' σ', Ce.le X X' → RepL X' u (txts (evalG (lookV vars) F s).2.1) → Hs σ' X' R → k (.tuple #[.int .i64 (evalG (lookV vars) F s).1, u, .int .i64 (evalG (lookV vars) F s).2.2]) σ') :
    kCall Tryz.prog 12 [.string (bs s), vv] σ k := by
  refine f12 ?_
  have nilR : ∀ X' : Ce, RepL X' (.slice none 0 0) ([] : List (Str × Str)) := fun X' => ⟨none, 0, rfl, Nat.le_refl _, by unfold maxLen; omega, .inl rfl⟩
  unfold maxLen at hs
  unfold evalG at hk
  (try simp (maxSteps := 1000000) (dsimp := false) (disch := (first | omega | (simp only [okR]; done) | (simp only [sizeR] <;> omega) | fail)) only [↓preR, postR, ↓w_stop, Nat.reduceEqDiff, Nat.reduceAdd, Nat.reduceSub, Nat.reduceMul, Int.reduceNeg, Nat.reduceLT, Int.reduceToNat, Nat.reduceLeDiff, Nat.sub_zero, F12])
  refine join_by fun J1 hJ1 => ?_
  by_cases hb : 4096 < s.length
  · have hb' : 4096 < (s.length : Int) := by omega
    rw [if_pos hb] at hk
    (try simp (maxSteps := 1000000) (dsimp := false) (disch := (first | omega | (simp only [okR]; done) | (simp only [sizeR] <;> omega) | fail)) only [↓preR, postR, ↓w_stop, Nat.reduceEqDiff, Nat.reduceAdd, Nat.reduceSub, Nat.reduceMul, Int.reduceNeg, Nat.reduceLT, Int.reduceToNat, Nat.reduceLeDiff, Nat.sub_zero, hb'])
    exact hk _ X σ (Ce.le_refl _) (nilR X) h
  have hb' : ¬ 4096 < (s.length : Int) := by omega
  rw [if_neg hb] at hk
  (try simp (maxSteps := 1000000) (dsimp := false) (disch := (first | omega | (simp only [okR]; done) | (simp only [sizeR] <;> omega) | fail)) only [↓preR, postR, ↓w_stop, Nat.reduceEqDiff, Nat.reduceAdd, Nat.reduceSub, Nat.reduceMul, Int.reduceNeg, Nat.reduceLT, Int.reduceToNat, Nat.reduceLeDiff, Nat.sub_zero, hb'])
  refine hJ1 _ _ ?_
  clear hJ1
  obtain ⟨va, vc, rfl, _⟩ := hV.r
  have h2 := h.own0 (α := Str × Str)
  have e0 : ((posS s s : Nat) : Int) = 0 := by unfold posS; omega
  have h3 : Hs (σ.new (.cells [.string (bs s), .int .i64 (posS s s), .int .i64 0, .bool false, .int .i64 0, .slice va vars.length vc, .slice none 0 0])) X (WoR σ.n s (.slice va vars.length vc) (.slice none 0 0) ⟨s, 0, 0, []⟩ false R) := h2.new (cs := woC s ⟨s, 0, 0, []⟩ false (.slice va vars.length vc) (.slice none 0 0))
  rw [e0] at h3
  (try simp (maxSteps := 1000000) (dsimp := false) (disch := (first | omega | (simp only [okR]; done) | (simp only [sizeR] <;> omega) | fail)) only [↓preR, postR, ↓w_stop, Nat.reduceEqDiff, Nat.reduceAdd, Nat.reduceSub, Nat.reduceMul, Int.reduceNeg, Nat.reduceLT, Int.reduceToNat, Nat.reduceLeDiff, Nat.sub_zero])
  generalize AS.new σ _ = s2 at h3 ⊢
  generalize σ.n = p at h3 ⊢
  refine rskip_c (by omega) (Suf.refl s) h3 fun w0 s3 h4 => ?_
  obtain ⟨s', hs'⟩ : ∃ s', s' = skipB s := ⟨_, rfl⟩
  have hsl : s'.length ≤ s.length := by rw [hs']; exact skip_len s
  have est : (ASt.mk s 0 0 []).skip = ⟨s', 0, 0, []⟩ := by rw [hs']; rfl
  have hSuf : Suf s s' := by rw [hs']; exact (Suf.refl s).skip
  rw [est] at h4
  rw [← hs'] at hk
  have o4 : s3.m p = some (.cells [.string (bs s), .int .i64 (posS s s'), .int .i64 0, .bool false, .int .i64 0, .slice va vars.length vc, .slice none 0 0]) := h4.obj
  (try simp (maxSteps := 1000000) (dsimp := false) (disch := (first | omega | (simp only [okR]; done) | (simp only [sizeR] <;> omega) | fail)) only [↓preR, postR, ↓w_stop, Nat.reduceEqDiff, Nat.reduceAdd, Nat.reduceSub, Nat.reduceMul, Int.reduceNeg, Nat.reduceLT, Int.reduceToNat, Nat.reduceLeDiff, Nat.sub_zero])
  refine join_by fun J2 hJ2 => ?_
  by_cases he : s' = []
  · have ep : ((posS s s' : Nat) : Int) = (s.length : Int) := by unfold posS; rw [he]; simp
    rw [if_pos he] at hk
    (try simp (maxSteps := 1000000) (dsimp := false) (disch := (first | omega | (simp only [okR]; done) | (simp only [sizeR] <;> omega) | fail)) only [↓preR, postR, ↓w_stop, Nat.reduceEqDiff, Nat.reduceAdd, Nat.reduceSub, Nat.reduceMul, Int.reduceNeg, Nat.reduceLT, Int.reduceToNat, Nat.reduceLeDiff, Nat.sub_zero, o4, ep])
    exact hk _ X _ (Ce.le_refl _) (nilR X) h4.drop.drop
  have hlp : 0 < s'.length := List.length_pos_iff.2 he
  have ep : ¬ ((posS s s' : Nat) : Int) = (s.length : Int) := by unfold posS; omega
  rw [if_neg he] at hk
  (try simp (maxSteps := 1000000) (dsimp := false) (disch := (first | omega | (simp only [okR]; done) | (simp only [sizeR] <;> omega) | fail)) only [↓preR, postR, ↓w_stop, Nat.reduceEqDiff, Nat.reduceAdd, Nat.reduceSub, Nat.reduceMul, Int.reduceNeg, Nat.reduceLT, Int.reduceToNat, Nat.reduceLeDiff, Nat.sub_zero, o4, ep])
  refine hJ2 _ _ ?_
  clear hJ2
  (try simp (maxSteps := 1000000) (dsimp := false) (disch := (first | omega | (simp only [okR]; done) | (simp only [sizeR] <;> omega) | fail)) only [↓preR, postR, ↓w_stop, Nat.reduceEqDiff, Nat.reduceAdd, Nat.reduceSub, Nat.reduceMul, Int.reduceNeg, Nat.reduceLT, Int.reduceToNat, Nat.reduceLeDiff, Nat.sub_zero])
  have hI : InvS 4096 ⟨s', 0, 0, []⟩ := ⟨by show 0 + s'.length + 0 ≤ 4096; omega, setsI_nil _⟩
  refine (allR_c (B := 4096) (by omega) (by omega) hV hL F F (Nat.le_refl _)).1 _ _ _ ⟨s', 0, 0, []⟩ false _ (by show needs _ s'.length ≤ _; simp only [needs, evF] at hF ⊢; omega) hI hSuf h4 fun v st' b' u' s4 a q5 h5 => ?_
  have a1 := a.ok rfl
  (try simp (maxSteps := 1000000) (dsimp := false) (disch := (first | omega | (simp only [okR]; done) | (simp only [sizeR] <;> omega) | fail)) only [↓preR, postR, ↓w_stop, Nat.reduceEqDiff, Nat.reduceAdd, Nat.reduceSub, Nat.reduceMul, Int.reduceNeg, Nat.reduceLT, Int.reduceToNat, Nat.reduceLeDiff, Nat.sub_zero])
  refine rskip_c (by omega) q5 h5 fun w1 s5 h6 => ?_
  have q6 : Suf s st'.skip.left := q5.skip
  have o6 : s5.m p = some (.cells [.string (bs s), .int .i64 (posS s st'.skip.left), .int .i64 st'.over, .bool b', .int .i64 st'.fell, .slice va vars.length vc, u']) := h6.obj
  have hl6 := q6.len
  (try simp (maxSteps := 1000000) (dsimp := false) (disch := (first | omega | (simp only [okR]; done) | (simp only [sizeR] <;> omega) | fail)) only [↓preR, postR, ↓w_stop, Nat.reduceEqDiff, Nat.reduceAdd, Nat.reduceSub, Nat.reduceMul, Int.reduceNeg, Nat.reduceLT, Int.reduceToNat, Nat.reduceLeDiff, Nat.sub_zero])
  refine join_by fun J3 hJ3 => ?_
  have fail_ : (ev (lookV vars) F .set ⟨s', 0, 0, []⟩ = none ∨ ∃ q, ev (lookV vars) F .set ⟨s', 0, 0, []⟩ = some q ∧ ¬ skipB q.2.left = []) → k (.tuple #[.int .i64 0, .slice none 0 0, .int .i64 10]) s5 := by
    intro hf
    rcases hf with hf | ⟨q, hf, hq⟩
    · rw [hf] at hk
      exact hk _ X _ (Ce.le_refl _) (nilR X) h6.drop.drop
    · rw [hf] at hk
      simp only [if_pos hq] at hk
      exact hk _ X _ (Ce.le_refl _) (nilR X) h6.drop.drop
  cases b' with
  | true =>
    (try simp (maxSteps := 1000000) (dsimp := false) (disch := (first | omega | (simp only [okR]; done) | (simp only [sizeR] <;> omega) | fail)) only [↓preR, postR, ↓w_stop, Nat.reduceEqDiff, Nat.reduceAdd, Nat.reduceSub, Nat.reduceMul, Int.reduceNeg, Nat.reduceLT, Int.reduceToNat, Nat.reduceLeDiff, Nat.sub_zero, o6])
    refine fail_ (.inl ?_)
    cases hq : ev (lookV vars) F .set ⟨s', 0, 0, []⟩ with
    | none => rfl
    | some q => rw [hq] at a1; have := a1.2.2; cases this
  | false =>
    obtain ⟨hev, hsl'⟩ : ev (lookV vars) F .set ⟨s', 0, 0, []⟩ = some (v, st') ∧ True := by
      cases hq : ev (lookV vars) F .set ⟨s', 0, 0, []⟩ with
      | none => rw [hq] at a1; cases a1
      | some q =>
        rw [hq] at a1
        obtain ⟨n, s2'⟩ := q
        obtain ⟨rfl, rfl, _⟩ := a1
        exact ⟨rfl, trivial⟩
    by_cases he2 : skipB st'.left = []
    · have he2' : st'.skip.left = [] := he2
      have ep2 : ¬ ((posS s st'.skip.left : Nat) : Int) < (s.length : Int) := by unfold posS; rw [he2']; simp
      rw [hev] at hk
      have hn2 : ¬ ¬ skipB st'.left = [] := fun h => h he2
      simp only [if_neg hn2] at hk
      (try simp (maxSteps := 1000000) (dsimp := false) (disch := (first | omega | (simp only [okR]; done) | (simp only [sizeR] <;> omega) | fail)) only [↓preR, postR, ↓w_stop, Nat.reduceEqDiff, Nat.reduceAdd, Nat.reduceSub, Nat.reduceMul, Int.reduceNeg, Nat.reduceLT, Int.reduceToNat, Nat.reduceLeDiff, Nat.sub_zero, o6, ep2])
      refine hJ3 _ _ ?_
      (try simp (maxSteps := 1000000) (dsimp := false) (disch := (first | omega | (simp only [okR]; done) | (simp only [sizeR] <;> omega) | fail)) only [↓preR, postR, ↓w_stop, Nat.reduceEqDiff, Nat.reduceAdd, Nat.reduceSub, Nat.reduceMul, Int.reduceNeg, Nat.reduceLT, Int.reduceToNat, Nat.reduceLeDiff, Nat.sub_zero])
      refine join_by fun J4 hJ4 => ?_
      by_cases hfl : st'.fell = 0
      · have hn3 : ¬ ¬ st'.fell = 0 := fun h => h hfl
        simp only [if_neg hn3] at hk
        obtain ⟨X2, le2, r2, h7⟩ := h6.drop.keep
        (try simp (maxSteps := 1000000) (dsimp := false) (disch := (first | omega | (simp only [okR]; done) | (simp only [sizeR] <;> omega) | fail)) only [↓preR, postR, ↓w_stop, Nat.reduceEqDiff, Nat.reduceAdd, Nat.reduceSub, Nat.reduceMul, Int.reduceNeg, Nat.reduceLT, Int.reduceToNat, Nat.reduceLeDiff, Nat.sub_zero, o6, hfl])
        refine hJ4 _ _ ?_
        (try simp (maxSteps := 1000000) (dsimp := false) (disch := (first | omega | (simp only [okR]; done) | (simp only [sizeR] <;> omega) | fail)) only [↓preR, postR, ↓w_stop, Nat.reduceEqDiff, Nat.reduceAdd, Nat.reduceSub, Nat.reduceMul, Int.reduceNeg, Nat.reduceLT, Int.reduceToNat, Nat.reduceLeDiff, Nat.sub_zero, o6])
        exact hk _ X2 _ le2 r2 h7
      · simp only [if_pos hfl] at hk
        (try simp (maxSteps := 1000000) (dsimp := false) (disch := (first | omega | (simp only [okR]; done) | (simp only [sizeR] <;> omega) | fail)) only [↓preR, postR, ↓w_stop, Nat.reduceEqDiff, Nat.reduceAdd, Nat.reduceSub, Nat.reduceMul, Int.reduceNeg, Nat.reduceLT, Int.reduceToNat, Nat.reduceLeDiff, Nat.sub_zero, o6, hfl])
        exact hk _ X _ (Ce.le_refl _) (nilR X) h6.drop.drop
    · have hlp2 : 0 < st'.skip.left.length := List.length_pos_iff.2 he2
      have ep2 : ((posS s st'.skip.left : Nat) : Int) < (s.length : Int) := by unfold posS; omega
      (try simp (maxSteps := 1000000) (dsimp := false) (disch := (first | omega | (simp only [okR]; done) | (simp only [sizeR] <;> omega) | fail)) only [↓preR, postR, ↓w_stop, Nat.reduceEqDiff, Nat.reduceAdd, Nat.reduceSub, Nat.reduceMul, Int.reduceNeg, Nat.reduceLT, Int.reduceToNat, Nat.reduceLeDiff, Nat.sub_zero, o6, ep2])
      exact fail_ (.inr ⟨_, hev, he2⟩)
theorem evals_walk (L : Law X g o) (hr : RepL X vv l) (hs : s.length ≤ maxLen) (h : Hs σ X [Oth g o]) (hk : ∀ X' σ', Ce.le X X' → Hs σ' X' [Oth g o] → k (.bool true) σ') : kCall Tryz.prog 4 [.string (bs s), vv] σ k := by
  refine f4 ?_
  have hs2 := hs
  unfold maxLen at hs
  (try simp (maxSteps := 1000000) (dsimp := false) (disch := (first | omega | (simp only [okR]; done) | (simp only [sizeR] <;> omega) | fail)) only [↓preR, postR, ↓w_stop, Nat.reduceEqDiff, Nat.reduceAdd, Nat.reduceSub, Nat.reduceMul, Int.reduceNeg, Nat.reduceLT, Int.reduceToNat, Nat.reduceLeDiff, Nat.sub_zero, F4])
  refine join_by fun J1 hJ1 => ?_
  have aw : ∀ (k1 : Value → AS → Prop), (∀ X' σ', Ce.le X X' → Hs σ' X' [Oth g o] → k1 (.bool true) σ') → kCall Tryz.prog 7 [] σ k1 := fun k1 hk1 => awake_c L h hk1
  by_cases h6 : 600 < s.length ∧ s.length ≤ 4096
  · have h6a : 600 < (s.length : Int) := by omega
    have h6b : (s.length : Int) ≤ 4096 := by omega
    (try simp (maxSteps := 1000000) (dsimp := false) (disch := (first | omega | (simp only [okR]; done) | (simp only [sizeR] <;> omega) | fail)) only [↓preR, postR, ↓w_stop, Nat.reduceEqDiff, Nat.reduceAdd, Nat.reduceSub, Nat.reduceMul, Int.reduceNeg, Nat.reduceLT, Int.reduceToNat, Nat.reduceLeDiff, Nat.sub_zero, h6a, h6b])
    refine aw _ fun X' s1 le1 h1 => ?_
    (try simp (maxSteps := 1000000) (dsimp := false) (disch := (first | omega | (simp only [okR]; done) | (simp only [sizeR] <;> omega) | fail)) only [↓preR, postR, ↓w_stop, Nat.reduceEqDiff, Nat.reduceAdd, Nat.reduceSub, Nat.reduceMul, Int.reduceNeg, Nat.reduceLT, Int.reduceToNat, Nat.reduceLeDiff, Nat.sub_zero])
    exact hk _ _ le1 h1
  have tail : fewP l = true → J1 [] σ := by
    intro hf
    obtain ⟨hV, h30⟩ := few_vars hr hf
    refine hJ1 _ _ ?_
    clear hJ1 aw
    (try simp (maxSteps := 1000000) (dsimp := false) (disch := (first | omega | (simp only [okR]; done) | (simp only [sizeR] <;> omega) | fail)) only [↓preR, postR, ↓w_stop, Nat.reduceEqDiff, Nat.reduceAdd, Nat.reduceSub, Nat.reduceMul, Int.reduceNeg, Nat.reduceLT, Int.reduceToNat, Nat.reduceLeDiff, Nat.sub_zero])
    refine evalL_c L hV hs2 (Nat.le_refl _) h fun u1 X2 s2 le2 r1 h2 => ?_
    (try simp (maxSteps := 1000000) (dsimp := false) (disch := (first | omega | (simp only [okR]; done) | (simp only [sizeR] <;> omega) | fail)) only [↓preR, postR, ↓w_stop, Nat.reduceEqDiff, Nat.reduceAdd, Nat.reduceSub, Nat.reduceMul, Int.reduceNeg, Nat.reduceLT, Int.reduceToNat, Nat.reduceLeDiff, Nat.sub_zero])
    refine pl_c (hr.mono le2) (by omega) h2 fun w0 X3 s3 le3 rw0 h3 => ?_
    (try simp (maxSteps := 1000000) (dsimp := false) (disch := (first | omega | (simp only [okR]; done) | (simp only [sizeR] <;> omega) | fail)) only [↓preR, postR, ↓w_stop, Nat.reduceEqDiff, Nat.reduceAdd, Nat.reduceSub, Nat.reduceMul, Int.reduceNeg, Nat.reduceLT, Int.reduceToNat, Nat.reduceLeDiff, Nat.sub_zero])
    have hV3 : VarsI X3 w0 l := ⟨rw0, hV.l⟩
    refine reval_c hV3 (look_all l) hs2 (Nat.le_refl _) h3 fun u2 X4 s4 le4 r2 h4 => ?_
    have hsl := evalG_sets (l := l) (F := evF s) (s := s)
    have r1 := (r1.mono le3).mono le4
    have L4 := ((L.mono le2).mono le3).mono le4
    have le04 := Ce.le_trans (Ce.le_trans le2 le3) le4
    generalize evalG (lookV l) (evF s) s = r at r1 r2 hsl ⊢
    obtain ⟨n, sets, e⟩ := r
    have hsl2 : (txts sets).length ≤ 1000000 := by
      rw [List.length_map]
      have : sets.length ≤ 4096 := hsl
      omega
    (try simp (maxSteps := 1000000) (dsimp := false) (disch := (first | omega | (simp only [okR]; done) | (simp only [sizeR] <;> omega) | fail)) only [↓preR, postR, ↓w_stop, Nat.reduceEqDiff, Nat.reduceAdd, Nat.reduceSub, Nat.reduceMul, Int.reduceNeg, Nat.reduceLT, Int.reduceToNat, Nat.reduceLeDiff, Nat.sub_zero])
    refine pl_c r1 hsl2 h4 fun w1 X5 s5 le5 rw1 h5 => ?_
    (try simp (maxSteps := 1000000) (dsimp := false) (disch := (first | omega | (simp only [okR]; done) | (simp only [sizeR] <;> omega) | fail)) only [↓preR, postR, ↓w_stop, Nat.reduceEqDiff, Nat.reduceAdd, Nat.reduceSub, Nat.reduceMul, Int.reduceNeg, Nat.reduceLT, Int.reduceToNat, Nat.reduceLeDiff, Nat.sub_zero])
    refine same_c rw1 (r2.mono le5) h5 ?_
    (try simp (maxSteps := 1000000) (dsimp := false) (disch := (first | omega | (simp only [okR]; done) | (simp only [sizeR] <;> omega) | fail)) only [↓preR, postR, ↓w_stop, Nat.reduceEqDiff, Nat.reduceAdd, Nat.reduceSub, Nat.reduceMul, Int.reduceNeg, Nat.reduceLT, Int.reduceToNat, Nat.reduceLeDiff, Nat.sub_zero])
    refine awake_c (L4.mono le5) h5 fun X7 s7 le7 h7 => ?_
    (try simp (maxSteps := 1000000) (dsimp := false) (disch := (first | omega | (simp only [okR]; done) | (simp only [sizeR] <;> omega) | fail)) only [↓preR, postR, ↓w_stop, Nat.reduceEqDiff, Nat.reduceAdd, Nat.reduceSub, Nat.reduceMul, Int.reduceNeg, Nat.reduceLT, Int.reduceToNat, Nat.reduceLeDiff, Nat.sub_zero])
    exact hk _ _ (Ce.le_trans (Ce.le_trans le04 le5) le7) h7
  have rest : (fewP l = true → J1 [] σ) → kCall Tryz.prog 10 [vv] σ (fun v s => kUn .not v fun v22 => kCond v22 (kCall Tryz.prog 7 [] s fun v s => k v s) (J1 [] s)) := by
    intro tl
    refine few_c hr h ?_
    cases hf : fewP l with
    | false =>
      (try simp (maxSteps := 1000000) (dsimp := false) (disch := (first | omega | (simp only [okR]; done) | (simp only [sizeR] <;> omega) | fail)) only [↓preR, postR, ↓w_stop, Nat.reduceEqDiff, Nat.reduceAdd, Nat.reduceSub, Nat.reduceMul, Int.reduceNeg, Nat.reduceLT, Int.reduceToNat, Nat.reduceLeDiff, Nat.sub_zero])
      refine aw _ fun X' s1 le1 h1 => ?_
      (try simp (maxSteps := 1000000) (dsimp := false) (disch := (first | omega | (simp only [okR]; done) | (simp only [sizeR] <;> omega) | fail)) only [↓preR, postR, ↓w_stop, Nat.reduceEqDiff, Nat.reduceAdd, Nat.reduceSub, Nat.reduceMul, Int.reduceNeg, Nat.reduceLT, Int.reduceToNat, Nat.reduceLeDiff, Nat.sub_zero])
      exact hk _ _ le1 h1
    | true =>
      (try simp (maxSteps := 1000000) (dsimp := false) (disch := (first | omega | (simp only [okR]; done) | (simp only [sizeR] <;> omega) | fail)) only [↓preR, postR, ↓w_stop, Nat.reduceEqDiff, Nat.reduceAdd, Nat.reduceSub, Nat.reduceMul, Int.reduceNeg, Nat.reduceLT, Int.reduceToNat, Nat.reduceLeDiff, Nat.sub_zero])
      exact tl hf
  by_cases h6a : 600 < s.length
  · have h6a' : 600 < (s.length : Int) := by omega
    have h6b : ¬ (s.length : Int) ≤ 4096 := by omega
    (try simp (maxSteps := 1000000) (dsimp := false) (disch := (first | omega | (simp only [okR]; done) | (simp only [sizeR] <;> omega) | fail)) only [↓preR, postR, ↓w_stop, Nat.reduceEqDiff, Nat.reduceAdd, Nat.reduceSub, Nat.reduceMul, Int.reduceNeg, Nat.reduceLT, Int.reduceToNat, Nat.reduceLeDiff, Nat.sub_zero, h6a', h6b])
    refine few_c hr h ?_
    cases hf : fewP l with
    | false =>
      (try simp (maxSteps := 1000000) (dsimp := false) (disch := (first | omega | (simp only [okR]; done) | (simp only [sizeR] <;> omega) | fail)) only [↓preR, postR, ↓w_stop, Nat.reduceEqDiff, Nat.reduceAdd, Nat.reduceSub, Nat.reduceMul, Int.reduceNeg, Nat.reduceLT, Int.reduceToNat, Nat.reduceLeDiff, Nat.sub_zero])
      refine aw _ fun X' s1 le1 h1 => ?_
      (try simp (maxSteps := 1000000) (dsimp := false) (disch := (first | omega | (simp only [okR]; done) | (simp only [sizeR] <;> omega) | fail)) only [↓preR, postR, ↓w_stop, Nat.reduceEqDiff, Nat.reduceAdd, Nat.reduceSub, Nat.reduceMul, Int.reduceNeg, Nat.reduceLT, Int.reduceToNat, Nat.reduceLeDiff, Nat.sub_zero])
      exact hk _ _ le1 h1
    | true =>
      have tl := tail hf
      (try simp (maxSteps := 1000000) (dsimp := false) (disch := (first | omega | (simp only [okR]; done) | (simp only [sizeR] <;> omega) | fail)) only [↓preR, postR, ↓w_stop, Nat.reduceEqDiff, Nat.reduceAdd, Nat.reduceSub, Nat.reduceMul, Int.reduceNeg, Nat.reduceLT, Int.reduceToNat, Nat.reduceLeDiff, Nat.sub_zero])
      exact tl
  · have h6a' : ¬ 600 < (s.length : Int) := by omega
    (try simp (maxSteps := 1000000) (dsimp := false) (disch := (first | omega | (simp only [okR]; done) | (simp only [sizeR] <;> omega) | fail)) only [↓preR, postR, ↓w_stop, Nat.reduceEqDiff, Nat.reduceAdd, Nat.reduceSub, Nat.reduceMul, Int.reduceNeg, Nat.reduceLT, Int.reduceToNat, Nat.reduceLeDiff, Nat.sub_zero, h6a'])
    refine few_c hr h ?_
    cases hf : fewP l with
    | false =>
      (try simp (maxSteps := 1000000) (dsimp := false) (disch := (first | omega | (simp only [okR]; done) | (simp only [sizeR] <;> omega) | fail)) only [↓preR, postR, ↓w_stop, Nat.reduceEqDiff, Nat.reduceAdd, Nat.reduceSub, Nat.reduceMul, Int.reduceNeg, Nat.reduceLT, Int.reduceToNat, Nat.reduceLeDiff, Nat.sub_zero])
      refine aw _ fun X' s1 le1 h1 => ?_
      (try simp (maxSteps := 1000000) (dsimp := false) (disch := (first | omega | (simp only [okR]; done) | (simp only [sizeR] <;> omega) | fail)) only [↓preR, postR, ↓w_stop, Nat.reduceEqDiff, Nat.reduceAdd, Nat.reduceSub, Nat.reduceMul, Int.reduceNeg, Nat.reduceLT, Int.reduceToNat, Nat.reduceLeDiff, Nat.sub_zero])
      exact hk _ _ le1 h1
    | true =>
      have tl := tail hf
      (try simp (maxSteps := 1000000) (dsimp := false) (disch := (first | omega | (simp only [okR]; done) | (simp only [sizeR] <;> omega) | fail)) only [↓preR, postR, ↓w_stop, Nat.reduceEqDiff, Nat.reduceAdd, Nat.reduceSub, Nat.reduceMul, Int.reduceNeg, Nat.reduceLT, Int.reduceToNat, Nat.reduceLeDiff, Nat.sub_zero])
      exact tl
theorem values_walk (L : Law X g o) (hs : s.length ≤ maxLen) (h : Hs σ X [Oth g o]) (hk : ∀ X' σ', Ce.le X X' → Hs σ' X' [Oth g o] → k (.bool true) σ') : kCall Tryz.prog 3 [.string (bs s)] σ k := by
  refine f3 ?_
  unfold maxLen at hs
  (try simp (maxSteps := 1000000) (dsimp := false) (disch := (first | omega | (simp only [okR]; done) | (simp only [sizeR] <;> omega) | fail)) only [↓preR, postR, ↓w_stop, Nat.reduceEqDiff, Nat.reduceAdd, Nat.reduceSub, Nat.reduceMul, Int.reduceNeg, Nat.reduceLT, Int.reduceToNat, Nat.reduceLeDiff, Nat.sub_zero, F3])
  refine join_by fun J1 hJ1 => ?_
  by_cases h6 : 500 < s.length
  · have h6' : 500 < (s.length : Int) := by omega
    (try simp (maxSteps := 1000000) (dsimp := false) (disch := (first | omega | (simp only [okR]; done) | (simp only [sizeR] <;> omega) | fail)) only [↓preR, postR, ↓w_stop, Nat.reduceEqDiff, Nat.reduceAdd, Nat.reduceSub, Nat.reduceMul, Int.reduceNeg, Nat.reduceLT, Int.reduceToNat, Nat.reduceLeDiff, Nat.sub_zero, h6'])
    refine awake_c L h fun X' s1 le1 h1 => ?_
    (try simp (maxSteps := 1000000) (dsimp := false) (disch := (first | omega | (simp only [okR]; done) | (simp only [sizeR] <;> omega) | fail)) only [↓preR, postR, ↓w_stop, Nat.reduceEqDiff, Nat.reduceAdd, Nat.reduceSub, Nat.reduceMul, Int.reduceNeg, Nat.reduceLT, Int.reduceToNat, Nat.reduceLeDiff, Nat.sub_zero])
    exact hk _ _ le1 h1
  have h6' : ¬ 500 < (s.length : Int) := by omega
  (try simp (maxSteps := 1000000) (dsimp := false) (disch := (first | omega | (simp only [okR]; done) | (simp only [sizeR] <;> omega) | fail)) only [↓preR, postR, ↓w_stop, Nat.reduceEqDiff, Nat.reduceAdd, Nat.reduceSub, Nat.reduceMul, Int.reduceNeg, Nat.reduceLT, Int.reduceToNat, Nat.reduceLeDiff, Nat.sub_zero, h6'])
  refine hJ1 _ _ ?_
  clear hJ1
  obtain ⟨te1, pe1, hS⟩ := L.e.s
  obtain ⟨te2, pe2, hR⟩ := L.e.r
  (try simp (maxSteps := 1000000) (dsimp := false) (disch := (first | omega | (simp only [okR]; done) | (simp only [sizeR] <;> omega) | fail)) only [↓preR, postR, ↓w_stop, Nat.reduceEqDiff, Nat.reduceAdd, Nat.reduceSub, Nat.reduceMul, Int.reduceNeg, Nat.reduceLT, Int.reduceToNat, Nat.reduceLeDiff, Nat.sub_zero])
  refine value_c hS hR (by omega) h fun s1 h1 => ?_
  (try simp (maxSteps := 1000000) (dsimp := false) (disch := (first | omega | (simp only [okR]; done) | (simp only [sizeR] <;> omega) | fail)) only [↓preR, postR, ↓w_stop, Nat.reduceEqDiff, Nat.reduceAdd, Nat.reduceSub, Nat.reduceMul, Int.reduceNeg, Nat.reduceLT, Int.reduceToNat, Nat.reduceLeDiff, Nat.sub_zero])
  refine rvalue_c (by omega) ?_
  (try simp (maxSteps := 1000000) (dsimp := false) (disch := (first | omega | (simp only [okR]; done) | (simp only [sizeR] <;> omega) | fail)) only [↓preR, postR, ↓w_stop, Nat.reduceEqDiff, Nat.reduceAdd, Nat.reduceSub, Nat.reduceMul, Int.reduceNeg, Nat.reduceLT, Int.reduceToNat, Nat.reduceLeDiff, Nat.sub_zero])
  refine awake_c L h1 fun X' s2 le1 h2 => ?_
  (try simp (maxSteps := 1000000) (dsimp := false) (disch := (first | omega | (simp only [okR]; done) | (simp only [sizeR] <;> omega) | fail)) only [↓preR, postR, ↓w_stop, Nat.reduceEqDiff, Nat.reduceAdd, Nat.reduceSub, Nat.reduceMul, Int.reduceNeg, Nat.reduceLT, Int.reduceToNat, Nat.reduceLeDiff, Nat.sub_zero])
  exact hk _ _ le1 h2
theorem varsL {v1 : Value} {c : Ce} (A1 : OV c (shOf Tryz.prog 8 27) v1) : ∃ l : List (Str × Str), RepL c v1 l := by
  rw [show shOf Tryz.prog 8 27 = .slice (.fld 1 .str (.fld 1 .str .fin)) 2 from by kernel_rfl] at A1
  exact arg_list (α := Str × Str) A1
theorem evals_law {W : World} {te te2 : Nat} {pe pe2 v0 v1 : Value} (T : VarAt Tryz.prog "internal/strconv.uint64pow10" g o powV) (ho : W.heap[g]? = some o) (hE : W.cell? ⟨3, 0, none⟩ = some (.iface te pe)) (hS : W.cell? ⟨2, 0, none⟩ = some (.iface te2 pe2))
    (A0 : OV (E.start W).c (shOf Tryz.prog 8 9) v0) (A1 : OV (E.start W).c (shOf Tryz.prog 8 27) v1) : callP Tryz.prog 4 [v0, v1] W fun v w' => v = .bool true ∧ KeepP (fun _ => False) W w' := by
  rw [show shOf Tryz.prog 8 9 = .str from by kernel_rfl] at A0
  obtain ⟨s, rfl, hs⟩ := arg_str A0
  obtain ⟨l, h0⟩ := varsL A1
  have h1 := h0.offT (gs := [g]) (fun g' i v hg hv => pow_no T ho hg hv)
  exact law_st T ho hE hS fun σ L h => evals_walk L h1 hs h fun X' σ' _ h' => ⟨rfl, X', h'⟩
theorem values_law {W : World} {te te2 : Nat} {pe pe2 v0 : Value} (T : VarAt Tryz.prog "internal/strconv.uint64pow10" g o powV) (ho : W.heap[g]? = some o) (hE : W.cell? ⟨3, 0, none⟩ = some (.iface te pe)) (hS : W.cell? ⟨2, 0, none⟩ = some (.iface te2 pe2))
    (A0 : OV (E.start W).c (shOf Tryz.prog 8 9) v0) : callP Tryz.prog 3 [v0] W fun v w' => v = .bool true ∧ KeepP (fun _ => False) W w' := by
  rw [show shOf Tryz.prog 8 9 = .str from by kernel_rfl] at A0
  obtain ⟨s, rfl, hs⟩ := arg_str A0
  exact law_st T ho hE hS fun σ L h => values_walk L hs h fun X' σ' _ h' => ⟨rfl, X', h'⟩
end
end Go.Proofs.YtkbpbagjbjkpmaaGreatDoor
