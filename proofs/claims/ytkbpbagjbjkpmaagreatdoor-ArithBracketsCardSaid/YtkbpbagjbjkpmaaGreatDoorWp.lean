/- An error answers and sets nothing. Conditions: as each theorem says. -/
import Derived.Test.YtkbpbagjbjkpmaaGreatDoorWn
namespace Go.Proofs.YtkbpbagjbjkpmaaGreatDoor
open E Go.Lib
open Rp
set_option linter.unusedVariables false
set_option linter.unusedSimpArgs false
set_option maxHeartbeats 1000000
set_option maxRecDepth 20000

def Fl (n : Int) : Prop := n = 0 ∨ n = 10 ∨ n = 13
theorem value_fl (s : Str) : Fl (valueP s).2 := by
  unfold valueP Fl
  split
  · simp
  · split
    · simp
    · split
      · split <;> simp
      · split <;> simp
theorem do_fl (op : Str) (a b : Int) : Fl (doP op a b).2 := by
  unfold doP Fl
  split <;> first | (simp; done) | (split <;> first | (simp; done) | (split <;> simp))
theorem ask_fl {look : Str → Int × Int} (hL : ∀ n, Fl (look n).2) {st : ASt} (h : Fl st.fell) (name : Str) : Fl (askP look st name).2.fell := by
  unfold askP
  split
  · split
    · exact h
    · exact hL name
  · exact h
theorem does_fl {op : Str} {a b : Int} {st : ASt} (h : Fl st.fell) : Fl (doesP op a b st).2.fell := by
  unfold doesP
  split
  · exact do_fl _ _ _
  · exact h
theorem push_fl {st : ASt} (h : Fl st.fell) (n : Str) (v : Int) : Fl (pushP st n v).fell := by
  unfold pushP
  split
  · exact h
  · exact h
theorem pass_fl {st : ASt} (h : Fl st.fell) (b : Bool) : Fl (st.pass b).fell := h
theorem ev_fl {look : Str → Int × Int} (hL : ∀ n, Fl (look n).2) : ∀ (f : Nat) (md : Md) (st s' : ASt) (n : Int), ev look f md st = some (n, s') → Fl st.fell → Fl s'.fell := by
  intro f
  induction f with
  | zero => intro md st s' n h; cases h
  | succ f ih =>
    intro md st s' n h hI
    cases md with
    | set =>
      unfold ev at h
      simp only at h
      split at h
      · split at h
        · cases h
        · rename_i v s2 h2
          have i2 := ih _ _ _ _ h2 hI
          injection h with h
          injection h with e1 e2
          rw [← e2]
          refine push_fl ?_ _ _
          split
          · exact i2
          · exact does_fl (ask_fl hL i2 _)
      · exact ih _ _ _ _ h hI
    | choice =>
      unfold ev at h
      split at h
      · cases h
      · rename_i c s1 h1
        have i1 := ih _ _ _ _ h1 hI
        split at h
        · split at h
          · cases h
          · rename_i a s2 h2
            have i2 := ih _ _ _ _ h2 i1
            split at h
            · split at h
              · cases h
              · rename_i b s3 h3
                have i3 := ih _ _ _ _ h3 i2
                injection h with h
                injection h with e1 e2
                rw [← e2]
                exact i3
            · cases h
        · injection h with h
          injection h with e1 e2
          rw [← e2]
          exact i1
    | rank r =>
      unfold ev at h
      split at h
      · exact ih _ _ _ _ h hI
      · split at h
        · cases h
        · rename_i a s1 h1
          exact ih _ _ _ _ h (ih _ _ _ _ h1 hI)
    | loop r a =>
      unfold ev at h
      simp only at h
      split at h
      · split at h
        · cases h
        · rename_i b s2 h2
          have i2 := ih _ _ _ _ h2 hI
          split at h
          · exact ih _ _ _ _ h i2
          · split at h
            · exact ih _ _ _ _ h i2
            · exact ih _ _ _ _ h (does_fl i2)
      · injection h with h
        injection h with e1 e2
        rw [← e2]
        exact hI
    | opnd =>
      unfold ev at h
      simp only at h
      split at h
      · cases h
      · split at h
        · split at h
          · cases h
          · rename_i n1 s1 h1
            injection h with h
            injection h with e1 e2
            rw [← e2]
            exact ih _ _ _ _ h1 hI
        · split at h
          · split at h
            · cases h
            · rename_i n1 s1 h1
              have i1 := ih _ _ _ _ h1 hI
              split at h
              · injection h with h
                injection h with e1 e2
                rw [← e2]
                exact i1
              · cases h
          · split at h
            · injection h with h
              rw [show s' = (n, s').2 from rfl, ← h]
              refine ask_fl hL ?_ _
              exact hI
            · split at h
              · split at h
                · cases h
                · split at h
                  · cases h
                  · injection h with h
                    injection h with e1 e2
                    rw [← e2]
                    exact hI
              · cases h
theorem evalG_err {look : Str → Int × Int} (hL : ∀ n, Fl (look n).2) {F : Nat} {s : Str} (hs : ¬ 4096 < s.length) (he : ¬ (evalG look F s).2.2 = 0) : (evalG look F s).1 = 0 ∧ (evalG look F s).2.1 = [] ∧ ((evalG look F s).2.2 = 10 ∨ (evalG look F s).2.2 = 13) := by
  unfold evalG at he ⊢
  rw [if_neg hs] at he ⊢
  split at he
  · exact absurd rfl he
  · rename_i h1
    rw [if_neg h1]
    cases hev : ev look F .set ⟨skipB s, 0, 0, []⟩ with
    | none => exact ⟨rfl, rfl, .inl rfl⟩
    | some q =>
      obtain ⟨n, st⟩ := q
      rw [hev] at he
      simp only at he ⊢
      have hf := ev_fl hL _ _ _ _ _ hev (.inl rfl)
      by_cases h2 : skipB st.left = []
      · rw [if_neg (by simpa using h2)] at he ⊢
        by_cases h3 : st.fell = 0
        · rw [if_neg (by simpa using h3)] at he
          exact absurd rfl he
        · rw [if_pos h3]
          refine ⟨rfl, rfl, ?_⟩
          rcases hf with hf | hf | hf
          · exact absurd hf h3
          · exact .inl hf
          · exact .inr hf
      · rw [if_pos h2]
        exact ⟨rfl, rfl, .inl rfl⟩
theorem look_fl (l : List (Str × Str)) : ∀ n, Fl (lookV l n).2 := fun n => value_fl _
theorem few_vars {X : Ce} {vv : Value} {l : List (Str × Str)} (hr : RepL X vv l) (hf : fewP l = true) : VarsI X vv l ∧ l.length ≤ 30 := by
  unfold fewP at hf
  obtain ⟨h1, h2⟩ := Bool.and_eq_true_iff.1 hf
  refine ⟨⟨hr, fun p hp => ?_⟩, of_decide_eq_true h1⟩
  have := List.all_eq_true.1 h2 p hp
  unfold few1 at this
  have := of_decide_eq_true (Bool.and_eq_true_iff.1 this).2
  omega
/-- What is set is no more than what was read. -/
theorem evalG_sets {l : List (Str × Str)} {F : Nat} {s : Str} : (evalG (lookV l) F s).2.1.length ≤ 4096 := by
  unfold evalG
  split
  · exact Nat.zero_le _
  · rename_i hs
    split
    · exact Nat.zero_le _
    · split
      · exact Nat.zero_le _
      · rename_i n st hev
        split
        · exact Nat.zero_le _
        · split
          · exact Nat.zero_le _
          · have hI : InvS 4096 ⟨skipB s, 0, 0, []⟩ := ⟨by show 0 + (skipB s).length + 0 ≤ 4096; have := skip_len s; omega, setsI_nil _⟩
            have := (ev_ok (look_all l) _ _ _ _ _ hev hI trivial).inv hI
            have := this.n
            show st.sets.length ≤ 4096
            omega
section
variable {X : Ce} {σ : AS} {R : List Ck} {k : Value → AS → Prop} {v u vv : Value} {g i : Nat} {o : Go.Obj} {l : List (Str × Str)} {s : Str}
theorem errs_walk (L : Law X g o) (hr : RepL X vv l) (hs : s.length ≤ maxLen) (h : Hs σ X [Oth g o]) (hk : ∀ X' σ', Ce.le X X' → Hs σ' X' [Oth g o] → k (.bool true) σ') : kCall Tryz.prog 6 [.string (bs s), vv] σ k := by
  refine f6 ?_
  have hs2 := hs
  unfold maxLen at hs
  (try simp (maxSteps := 1000000) (dsimp := false) (disch := (first | omega | (simp only [okR]; done) | (simp only [sizeR] <;> omega) | fail)) only [↓preR, postR, ↓w_stop, Nat.reduceEqDiff, Nat.reduceAdd, Nat.reduceSub, Nat.reduceMul, Int.reduceNeg, Nat.reduceLT, Int.reduceToNat, Nat.reduceLeDiff, Nat.sub_zero, F6])
  refine join_by fun J1 hJ1 => ?_
  have aw : ∀ (k1 : Value → AS → Prop), (∀ X' σ', Ce.le X X' → Hs σ' X' [Oth g o] → k1 (.bool true) σ') → kCall Tryz.prog 7 [] σ k1 := fun k1 hk1 => awake_c L h hk1
  by_cases h6 : 600 < s.length
  · have h6' : 600 < (s.length : Int) := by omega
    (try simp (maxSteps := 1000000) (dsimp := false) (disch := (first | omega | (simp only [okR]; done) | (simp only [sizeR] <;> omega) | fail)) only [↓preR, postR, ↓w_stop, Nat.reduceEqDiff, Nat.reduceAdd, Nat.reduceSub, Nat.reduceMul, Int.reduceNeg, Nat.reduceLT, Int.reduceToNat, Nat.reduceLeDiff, Nat.sub_zero, h6'])
    refine aw _ fun X' s1 le1 h1 => ?_
    (try simp (maxSteps := 1000000) (dsimp := false) (disch := (first | omega | (simp only [okR]; done) | (simp only [sizeR] <;> omega) | fail)) only [↓preR, postR, ↓w_stop, Nat.reduceEqDiff, Nat.reduceAdd, Nat.reduceSub, Nat.reduceMul, Int.reduceNeg, Nat.reduceLT, Int.reduceToNat, Nat.reduceLeDiff, Nat.sub_zero])
    exact hk _ _ le1 h1
  have h6' : ¬ 600 < (s.length : Int) := by omega
  (try simp (maxSteps := 1000000) (dsimp := false) (disch := (first | omega | (simp only [okR]; done) | (simp only [sizeR] <;> omega) | fail)) only [↓preR, postR, ↓w_stop, Nat.reduceEqDiff, Nat.reduceAdd, Nat.reduceSub, Nat.reduceMul, Int.reduceNeg, Nat.reduceLT, Int.reduceToNat, Nat.reduceLeDiff, Nat.sub_zero, h6'])
  refine few_c hr h ?_
  cases hf : fewP l with
  | false =>
    (try simp (maxSteps := 1000000) (dsimp := false) (disch := (first | omega | (simp only [okR]; done) | (simp only [sizeR] <;> omega) | fail)) only [↓preR, postR, ↓w_stop, Nat.reduceEqDiff, Nat.reduceAdd, Nat.reduceSub, Nat.reduceMul, Int.reduceNeg, Nat.reduceLT, Int.reduceToNat, Nat.reduceLeDiff, Nat.sub_zero])
    refine aw _ fun X' s1 le1 h1 => ?_
    (try simp (maxSteps := 1000000) (dsimp := false) (disch := (first | omega | (simp only [okR]; done) | (simp only [sizeR] <;> omega) | fail)) only [↓preR, postR, ↓w_stop, Nat.reduceEqDiff, Nat.reduceAdd, Nat.reduceSub, Nat.reduceMul, Int.reduceNeg, Nat.reduceLT, Int.reduceToNat, Nat.reduceLeDiff, Nat.sub_zero])
    exact hk _ _ le1 h1
  | true =>
    obtain ⟨hV, h30⟩ := few_vars hr hf
    (try simp (maxSteps := 1000000) (dsimp := false) (disch := (first | omega | (simp only [okR]; done) | (simp only [sizeR] <;> omega) | fail)) only [↓preR, postR, ↓w_stop, Nat.reduceEqDiff, Nat.reduceAdd, Nat.reduceSub, Nat.reduceMul, Int.reduceNeg, Nat.reduceLT, Int.reduceToNat, Nat.reduceLeDiff, Nat.sub_zero])
    refine hJ1 _ _ ?_
    clear hJ1 aw
    (try simp (maxSteps := 1000000) (dsimp := false) (disch := (first | omega | (simp only [okR]; done) | (simp only [sizeR] <;> omega) | fail)) only [↓preR, postR, ↓w_stop, Nat.reduceEqDiff, Nat.reduceAdd, Nat.reduceSub, Nat.reduceMul, Int.reduceNeg, Nat.reduceLT, Int.reduceToNat, Nat.reduceLeDiff, Nat.sub_zero])
    refine pl_c hr (by omega) h fun w0 X1 s1 le1 rw0 h1 => ?_
    (try simp (maxSteps := 1000000) (dsimp := false) (disch := (first | omega | (simp only [okR]; done) | (simp only [sizeR] <;> omega) | fail)) only [↓preR, postR, ↓w_stop, Nat.reduceEqDiff, Nat.reduceAdd, Nat.reduceSub, Nat.reduceMul, Int.reduceNeg, Nat.reduceLT, Int.reduceToNat, Nat.reduceLeDiff, Nat.sub_zero])
    refine evalL_c (L.mono le1) (hV.mono le1) hs2 (Nat.le_refl _) h1 fun u1 X2 s2 le2 r1 h2 => ?_
    (try simp (maxSteps := 1000000) (dsimp := false) (disch := (first | omega | (simp only [okR]; done) | (simp only [sizeR] <;> omega) | fail)) only [↓preR, postR, ↓w_stop, Nat.reduceEqDiff, Nat.reduceAdd, Nat.reduceSub, Nat.reduceMul, Int.reduceNeg, Nat.reduceLT, Int.reduceToNat, Nat.reduceLeDiff, Nat.sub_zero])
    refine evalL_c ((L.mono le1).mono le2) ((hV.mono le1).mono le2) hs2 (Nat.le_refl _) h2 fun u2 X3 s3 le3 r2 h3 => ?_
    have herr := evalG_err (look_fl l) (F := evF s) (s := s) (by omega)
    have hsl := evalG_sets (l := l) (F := evF s) (s := s)
    have r1 := r1.mono le3
    have rw3 := (rw0.mono le2).mono le3
    have L3 := ((L.mono le1).mono le2).mono le3
    have hr3 := ((hr.mono le1).mono le2).mono le3
    have le03 := Ce.le_trans (Ce.le_trans le1 le2) le3
    generalize evalG (lookV l) (evF s) s = r at r1 r2 herr hsl ⊢
    obtain ⟨n, sets, e⟩ := r
    have hsl2 : (txts sets).length ≤ 1000000 := by
      rw [List.length_map]
      have : sets.length ≤ 4096 := hsl
      omega
    (try simp (maxSteps := 1000000) (dsimp := false) (disch := (first | omega | (simp only [okR]; done) | (simp only [sizeR] <;> omega) | fail)) only [↓preR, postR, ↓w_stop, Nat.reduceEqDiff, Nat.reduceAdd, Nat.reduceSub, Nat.reduceMul, Int.reduceNeg, Nat.reduceLT, Int.reduceToNat, Nat.reduceLeDiff, Nat.sub_zero])
    refine join_by fun J2 hJ2 => ?_
    have tail : J2 [] s3 := by
      refine hJ2 _ _ ?_
      clear hJ2
      (try simp (maxSteps := 1000000) (dsimp := false) (disch := (first | omega | (simp only [okR]; done) | (simp only [sizeR] <;> omega) | fail)) only [↓preR, postR, ↓w_stop, Nat.reduceEqDiff, Nat.reduceAdd, Nat.reduceSub, Nat.reduceMul, Int.reduceNeg, Nat.reduceLT, Int.reduceToNat, Nat.reduceLeDiff, Nat.sub_zero])
      refine pl_c r1 hsl2 h3 fun w1 X4 s4 le4 rw4 h4 => ?_
      (try simp (maxSteps := 1000000) (dsimp := false) (disch := (first | omega | (simp only [okR]; done) | (simp only [sizeR] <;> omega) | fail)) only [↓preR, postR, ↓w_stop, Nat.reduceEqDiff, Nat.reduceAdd, Nat.reduceSub, Nat.reduceMul, Int.reduceNeg, Nat.reduceLT, Int.reduceToNat, Nat.reduceLeDiff, Nat.sub_zero])
      refine pl_c (r2.mono le4) hsl2 h4 fun w2 X5 s5 le5 rw5 h5 => ?_
      (try simp (maxSteps := 1000000) (dsimp := false) (disch := (first | omega | (simp only [okR]; done) | (simp only [sizeR] <;> omega) | fail)) only [↓preR, postR, ↓w_stop, Nat.reduceEqDiff, Nat.reduceAdd, Nat.reduceSub, Nat.reduceMul, Int.reduceNeg, Nat.reduceLT, Int.reduceToNat, Nat.reduceLeDiff, Nat.sub_zero])
      refine same_c (rw4.mono le5) rw5 h5 ?_
      (try simp (maxSteps := 1000000) (dsimp := false) (disch := (first | omega | (simp only [okR]; done) | (simp only [sizeR] <;> omega) | fail)) only [↓preR, postR, ↓w_stop, Nat.reduceEqDiff, Nat.reduceAdd, Nat.reduceSub, Nat.reduceMul, Int.reduceNeg, Nat.reduceLT, Int.reduceToNat, Nat.reduceLeDiff, Nat.sub_zero])
      refine pl_c ((hr3.mono le4).mono le5) (by omega) h5 fun w3 X6 s6 le6 rw6 h6 => ?_
      (try simp (maxSteps := 1000000) (dsimp := false) (disch := (first | omega | (simp only [okR]; done) | (simp only [sizeR] <;> omega) | fail)) only [↓preR, postR, ↓w_stop, Nat.reduceEqDiff, Nat.reduceAdd, Nat.reduceSub, Nat.reduceMul, Int.reduceNeg, Nat.reduceLT, Int.reduceToNat, Nat.reduceLeDiff, Nat.sub_zero])
      refine same_c rw6 (((rw3.mono le4).mono le5).mono le6) h6 ?_
      (try simp (maxSteps := 1000000) (dsimp := false) (disch := (first | omega | (simp only [okR]; done) | (simp only [sizeR] <;> omega) | fail)) only [↓preR, postR, ↓w_stop, Nat.reduceEqDiff, Nat.reduceAdd, Nat.reduceSub, Nat.reduceMul, Int.reduceNeg, Nat.reduceLT, Int.reduceToNat, Nat.reduceLeDiff, Nat.sub_zero])
      refine awake_c (((L3.mono le4).mono le5).mono le6) h6 fun X7 s7 le7 h7 => ?_
      (try simp (maxSteps := 1000000) (dsimp := false) (disch := (first | omega | (simp only [okR]; done) | (simp only [sizeR] <;> omega) | fail)) only [↓preR, postR, ↓w_stop, Nat.reduceEqDiff, Nat.reduceAdd, Nat.reduceSub, Nat.reduceMul, Int.reduceNeg, Nat.reduceLT, Int.reduceToNat, Nat.reduceLeDiff, Nat.sub_zero])
      exact hk _ _ (Ce.le_trans (Ce.le_trans (Ce.le_trans (Ce.le_trans le03 le4) le5) le6) le7) h7
    clear hJ2
    by_cases he : e = 0
    · (try simp (maxSteps := 1000000) (dsimp := false) (disch := (first | omega | (simp only [okR]; done) | (simp only [sizeR] <;> omega) | fail)) only [↓preR, postR, ↓w_stop, Nat.reduceEqDiff, Nat.reduceAdd, Nat.reduceSub, Nat.reduceMul, Int.reduceNeg, Nat.reduceLT, Int.reduceToNat, Nat.reduceLeDiff, Nat.sub_zero, he])
      exact tail
    · obtain ⟨k1, k2, k3⟩ := herr he
      have k1 : n = 0 := k1
      have k2 : sets = [] := k2
      subst k1
      subst k2
      obtain ⟨va, vcap, rfl, _⟩ := r1.val
      have e0 : ((txts []).length : Int) = 0 := rfl
      rcases k3 with k3 | k3
      · have k3 : e = 10 := k3
        subst k3
        (try simp (maxSteps := 1000000) (dsimp := false) (disch := (first | omega | (simp only [okR]; done) | (simp only [sizeR] <;> omega) | fail)) only [↓preR, postR, ↓w_stop, Nat.reduceEqDiff, Nat.reduceAdd, Nat.reduceSub, Nat.reduceMul, Int.reduceNeg, Nat.reduceLT, Int.reduceToNat, Nat.reduceLeDiff, Nat.sub_zero, e0])
        exact tail
      · have k3 : e = 13 := k3
        subst k3
        (try simp (maxSteps := 1000000) (dsimp := false) (disch := (first | omega | (simp only [okR]; done) | (simp only [sizeR] <;> omega) | fail)) only [↓preR, postR, ↓w_stop, Nat.reduceEqDiff, Nat.reduceAdd, Nat.reduceSub, Nat.reduceMul, Int.reduceNeg, Nat.reduceLT, Int.reduceToNat, Nat.reduceLeDiff, Nat.sub_zero, e0])
        exact tail
theorem varsL {v1 : Value} {c : Ce} (A1 : OV c (shOf Tryz.prog 8 27) v1) : ∃ l : List (Str × Str), RepL c v1 l := by
  rw [show shOf Tryz.prog 8 27 = .slice (.fld 1 .str (.fld 1 .str .fin)) 2 from by kernel_rfl] at A1
  exact arg_list (α := Str × Str) A1
theorem errs_law {W : World} {te te2 : Nat} {pe pe2 v0 v1 : Value} (T : VarAt Tryz.prog "internal/strconv.uint64pow10" g o powV) (ho : W.heap[g]? = some o) (hE : W.cell? ⟨3, 0, none⟩ = some (.iface te pe)) (hS : W.cell? ⟨2, 0, none⟩ = some (.iface te2 pe2))
    (A0 : OV (E.start W).c (shOf Tryz.prog 8 9) v0) (A1 : OV (E.start W).c (shOf Tryz.prog 8 27) v1) : callP Tryz.prog 6 [v0, v1] W fun v w' => v = .bool true ∧ KeepP (fun _ => False) W w' := by
  rw [show shOf Tryz.prog 8 9 = .str from by kernel_rfl] at A0
  obtain ⟨s, rfl, hs⟩ := arg_str A0
  obtain ⟨l, h0⟩ := varsL A1
  have h1 := h0.offT (gs := [g]) (fun g' i v hg hv => pow_no T ho hg hv)
  exact law_st T ho hE hS fun σ L h => errs_walk L h1 hs h fun X' σ' _ h' => ⟨rfl, X', h'⟩
end
end Go.Proofs.YtkbpbagjbjkpmaaGreatDoor
