/- The worker at an expression: a name that is set. Conditions: as each theorem says. -/
import Derived.Test.YtkbpbagjbjkpmaaGreatDoorWg
namespace Go.Proofs.YtkbpbagjbjkpmaaGreatDoor
open E Go.Lib
open Rp
set_option linter.unusedVariables false
set_option linter.unusedSimpArgs false
set_option maxHeartbeats 1000000
set_option maxRecDepth 20000

theorem ev_set_in {look : Str → Int × Int} {f n : Nat} {s0 : ASt} {op : Str} (hn : frontF 0 s0.skip.left = n) (h0 : ¬ n = 0) (ho : nextP (skipB (s0.skip.left.drop n)) = op) (ha : asgn op = true) : ev look (f + 1) .set s0 =
    match ev look f .set (s0.skip.at ((skipB (s0.skip.left.drop n)).drop op.length)) with
    | none => none
    | some (v, s2) =>
      let r := if op = [61] then (v, s2) else doesP (op.take 1) (askP look s2 (s0.skip.left.take n)).1 v (askP look s2 (s0.skip.left.take n)).2
      some (r.1, pushP r.2 (s0.skip.left.take n) r.1) := by
  subst hn
  subst ho
  conv => lhs; unfold ev
  simp only
  rw [if_pos ⟨h0, ha⟩]
  generalize ev look f .set _ = e
  cases e with
  | none => rfl
  | some q => rfl
theorem ev_set_out {look : Str → Int × Int} {f : Nat} {s0 : ASt} (h : ¬ (frontF 0 s0.skip.left ≠ 0 ∧ asgn (nextP (skipB (s0.skip.left.drop (frontF 0 s0.skip.left)))) = true)) : ev look (f + 1) .set s0 = ev look f .choice s0.skip := by
  conv => lhs; unfold ev
  simp only
  rw [if_neg h]
theorem asgn_cases {op : Str} (h : asgn op = true) : op = [61] ∨ ∃ c, op = [c, 61] ∧ (c = 43 ∨ c = 45 ∨ c = 42 ∨ c = 47 ∨ c = 37) := by
  unfold asgn at h
  split at h
  · exact .inl rfl
  · exact .inr ⟨_, rfl, by simp⟩
  · exact .inr ⟨_, rfl, by simp⟩
  · exact .inr ⟨_, rfl, by simp⟩
  · exact .inr ⟨_, rfl, by simp⟩
  · exact .inr ⟨_, rfl, by simp⟩
  · cases h
theorem asgn_six (op : Str) : asgn op = (decide (op = [43, 61]) || (decide (op = [45, 61]) || (decide (op = [42, 61]) || (decide (op = [47, 61]) || (decide (op = [37, 61]) || decide (op = [61])))))) := by
  cases h : asgn op with
  | true =>
    rcases asgn_cases h with rfl | ⟨c, rfl, hc⟩
    · rfl
    · rcases hc with rfl | rfl | rfl | rfl | rfl <;> rfl
  | false =>
    symm
    simp only [Bool.or_eq_false_iff, decide_eq_false_iff_not]
    refine ⟨?_, ?_, ?_, ?_, ?_, ?_⟩ <;> (rintro rfl; cases h)
section
variable {X : Ce} {p m : Nat} {ops : List (Str × Value)} {vv : Value} {B : Nat} {look : Str → Int × Int} {g : Nat} {o : Go.Obj} {σ : AS} {k : Value → AS → Prop} {vars : List (Str × Str)}
theorem set_c {f : Nat} (hB : B ≤ 1000000) (T : VarAt Tryz.prog "internal/strconv.uint64pow10" g o powV) (hO : OpsOk X ops) (hE : ErrI X) (hV : VarsI X vv vars) (hL : LookI (lookV vars)) (ih : ∀ f0, f0 ≤ f → AllC X p m ops vv B (lookV vars) g o f0) : FnC X p m ops vv B (lookV vars) g o 21 [] .set (f + 1) := by
  intro σ R k st b u i hf hI hg h hk
  refine f21 ?_
  have hlB := hI.n
  (try simp (maxSteps := 1000000) (dsimp := false) (disch := (first | omega | (simp only [okR]; done) | (simp only [sizeR] <;> omega) | fail)) only [↓preR, postR, ↓w_stop, Nat.reduceEqDiff, Nat.reduceAdd, Nat.reduceSub, Nat.reduceMul, Int.reduceNeg, Nat.reduceLT, Int.reduceToNat, Nat.reduceLeDiff, Nat.sub_zero, F21])
  refine skip_c (by omega) h fun w0 s1 h1 => ?_
  have lq0 : Lq B st st.skip := (Lq.refl hI.s).skip
  have hsl : st.skip.left.length ≤ st.left.length := skip_len _
  obtain ⟨n, hn⟩ : ∃ n, n = frontF 0 st.skip.left := ⟨_, rfl⟩
  have hfl : n ≤ st.skip.left.length := by rw [hn]; exact front_le _ _
  (try simp (maxSteps := 1000000) (dsimp := false) (disch := (first | omega | (simp only [okR]; done) | (simp only [sizeR] <;> omega) | fail)) only [↓preR, postR, ↓w_stop, Nat.reduceEqDiff, Nat.reduceAdd, Nat.reduceSub, Nat.reduceMul, Int.reduceNeg, Nat.reduceLT, Int.reduceToNat, Nat.reduceLeDiff, Nat.sub_zero, h1.obj])
  refine front_c (by unfold maxLen; omega) ?_
  rw [← hn]
  have out : ¬ (n ≠ 0 ∧ asgn (nextP (skipB (st.skip.left.drop n))) = true) → ∀ (s2 : AS) (u2 : Value), Hs s2 X (WkR p m ops vv u2 st.skip b R) → kCall Tryz.prog 56 [pvw p] s2 k := by
    intro hno s2 u2 h2
    refine (ih f (Nat.le_refl _)).2.1 _ _ _ st.skip b u2 i (by show needs _ st.skip.left.length ≤ f; simp only [needs] at hf ⊢; omega) (lq0.inv hI (Nat.le_refl _)) hg h2 fun v st' b' u' s3 a h3 => ?_
    refine hk v st' b' u' s3 ⟨a.num, a.over, lq0.trans a.lq, a.bad, fun hb => ?_⟩ h3
    rw [ev_set_out (by rw [← hn]; exact hno)]
    exact a.ok hb
  have o1 := h1.obj
  have etl : (st.skip.left.take n).length = n := by rw [List.length_take]; omega
  (try simp (maxSteps := 1000000) (dsimp := false) (disch := (first | omega | (simp only [okR]; done) | (simp only [sizeR] <;> omega) | fail)) only [↓preR, postR, ↓w_stop, Nat.reduceEqDiff, Nat.reduceAdd, Nat.reduceSub, Nat.reduceMul, Int.reduceNeg, Nat.reduceLT, Int.reduceToNat, Nat.reduceLeDiff, Nat.sub_zero, o1])
  refine join_by fun J1 hJ1 => ?_
  by_cases h0 : n = 0
  · subst h0
    (try simp (maxSteps := 1000000) (dsimp := false) (disch := (first | omega | (simp only [okR]; done) | (simp only [sizeR] <;> omega) | fail)) only [↓preR, postR, ↓w_stop, Nat.reduceEqDiff, Nat.reduceAdd, Nat.reduceSub, Nat.reduceMul, Int.reduceNeg, Nat.reduceLT, Int.reduceToNat, Nat.reduceLeDiff, Nat.sub_zero, List.take_zero])
    have := out (fun h => h.1 rfl) _ _ h1
    exact this
  have hne : ¬ (st.skip.left.take n) = [] := by intro e; rw [e] at etl; exact h0 etl.symm
  (try simp (maxSteps := 1000000) (dsimp := false) (disch := (first | omega | (simp only [okR]; done) | (simp only [sizeR] <;> omega) | fail)) only [↓preR, postR, ↓w_stop, Nat.reduceEqDiff, Nat.reduceAdd, Nat.reduceSub, Nat.reduceMul, Int.reduceNeg, Nat.reduceLT, Int.reduceToNat, Nat.reduceLeDiff, Nat.sub_zero, hne])
  refine hJ1 _ _ ?_
  clear hJ1
  have etk : List.take (st.skip.left.length - n) (st.skip.left.drop n) = st.skip.left.drop n := List.take_of_length_le (by rw [List.length_drop]; omega)
  have h2 : Hs (s1.put p (.cells [.string (bs (st.skip.left.drop n)), .map (some m), vv, u, .int .i64 st.skip.over, .bool b, .int .i64 st.skip.fell])) X (WkR p m ops vv u (st.skip.at (st.skip.left.drop n)) b R) := h1.put
  (try simp (maxSteps := 1000000) (dsimp := false) (disch := (first | omega | (simp only [okR]; done) | (simp only [sizeR] <;> omega) | fail)) only [↓preR, postR, ↓w_stop, Nat.reduceEqDiff, Nat.reduceAdd, Nat.reduceSub, Nat.reduceMul, Int.reduceNeg, Nat.reduceLT, Int.reduceToNat, Nat.reduceLeDiff, Nat.sub_zero, o1, etl, etk])
  generalize AS.put _ _ _ = s2 at h2 ⊢
  refine next_c hO (by show (st.skip.left.drop n).length ≤ _; rw [List.length_drop]; omega) h2 fun s3 h3 => ?_
  obtain ⟨rest, hrest⟩ : ∃ r, r = skipB (st.skip.left.drop n) := ⟨_, rfl⟩
  have esk : (st.skip.at (st.skip.left.drop n)).skip = st.skip.at rest := by rw [hrest]; rfl
  rw [esk] at h3 ⊢
  have eat : (st.skip.at rest).left = rest := rfl
  rw [eat]
  obtain ⟨op, hop⟩ : ∃ op, op = nextP rest := ⟨_, rfl⟩
  rw [← hop]
  (try simp (maxSteps := 1000000) (dsimp := false) (disch := (first | omega | (simp only [okR]; done) | (simp only [sizeR] <;> omega) | fail)) only [↓preR, postR, ↓w_stop, Nat.reduceEqDiff, Nat.reduceAdd, Nat.reduceSub, Nat.reduceMul, Int.reduceNeg, Nat.reduceLT, Int.reduceToNat, Nat.reduceLeDiff, Nat.sub_zero])
  refine join_by fun J2 hJ2 => ?_
  (try simp (maxSteps := 1000000) (dsimp := false) (disch := (first | omega | (simp only [okR]; done) | (simp only [sizeR] <;> omega) | fail)) only [↓preR, postR, ↓w_stop, Nat.reduceEqDiff, Nat.reduceAdd, Nat.reduceSub, Nat.reduceMul, Int.reduceNeg, Nat.reduceLT, Int.reduceToNat, Nat.reduceLeDiff, Nat.sub_zero])
  refine join_by fun J5 hJ5 => ?_
  have fin : asgn op = true → J2 [] s3 := by
    intro ha
    refine hJ2 _ _ ?_
    clear hJ5
    have hap := asgn_pos ha
    have hnl : op.length ≤ rest.length := by rw [hop]; exact next_len _
    have hnn := name_next (l := st.skip.left) (n := n) h0 (by rw [← hrest, ← hop]; exact hap.1)
    rw [← hrest, ← hop] at hnn
    have eto : List.take (rest.length - op.length) (rest.drop op.length) = rest.drop op.length := List.take_of_length_le (by rw [List.length_drop]; omega)
    have h4 : Hs (s3.put p (.cells [.string (bs (rest.drop op.length)), .map (some m), vv, u, .int .i64 st.skip.over, .bool b, .int .i64 st.skip.fell])) X (WkR p m ops vv u (st.skip.at (rest.drop op.length)) b R) := h3.put
    have o3 : s3.m p = some (.cells [.string (bs rest), .map (some m), vv, u, .int .i64 st.skip.over, .bool b, .int .i64 st.skip.fell]) := h3.obj
    (try simp (maxSteps := 1000000) (dsimp := false) (disch := (first | omega | (simp only [okR]; done) | (simp only [sizeR] <;> omega) | fail)) only [↓preR, postR, ↓w_stop, Nat.reduceEqDiff, Nat.reduceAdd, Nat.reduceSub, Nat.reduceMul, Int.reduceNeg, Nat.reduceLT, Int.reduceToNat, Nat.reduceLeDiff, Nat.sub_zero, o3, eto])
    generalize AS.put _ _ _ = s4 at h4 ⊢
    have lqa : Lq B st (st.skip.at (rest.drop op.length)) := lq0.at (by omega)
    refine (ih f (Nat.le_refl _)).1 _ _ _ (st.skip.at (rest.drop op.length)) b u i (by show needs _ (rest.drop op.length).length ≤ f; simp only [needs] at hf ⊢; omega) (lqa.inv hI (Nat.le_refl _)) hg h4 fun v st2 b2 u2 s5 a h5 => ?_
    (try simp (maxSteps := 1000000) (dsimp := false) (disch := (first | omega | (simp only [okR]; done) | (simp only [sizeR] <;> omega) | fail)) only [↓preR, postR, ↓w_stop, Nat.reduceEqDiff, Nat.reduceAdd, Nat.reduceSub, Nat.reduceMul, Int.reduceNeg, Nat.reduceLT, Int.reduceToNat, Nat.reduceLeDiff, Nat.sub_zero])
    refine join_by fun J3 hJ3 => ?_
    have hnl2 : (st.skip.left.take n).length ≤ B := by rw [etl]; omega
    have hl2 : st2.left.length ≤ (rest.drop op.length).length := a.lq.left
    have hsum2 : st2.left.length + st2.sets.length ≤ (rest.drop op.length).length + st.sets.length := a.lq.sum
    have lq2 : Lq B st st2 := lqa.trans a.lq
    have fin : ∀ (r : Int × ASt) (s6 : AS), r.2.over = st2.over → r.2.left = st2.left → r.2.sets = st2.sets → inI64 r.1 → (b2 = false → r = if op = [61] then (v, st2) else doesP (op.take 1) (askP (lookV vars) st2 (st.skip.left.take n)).1 v (askP (lookV vars) st2 (st.skip.left.take n)).2) →
        Hs s6 X (WkR p m ops vv u2 r.2 b2 R) → J3 [.int .i64 r.1] s6 := by
      intro r s6 r1 r2 r3 r4 r5 h6
      refine hJ3 _ _ ?_
      clear hJ3
      (try simp (maxSteps := 1000000) (dsimp := false) (disch := (first | omega | (simp only [okR]; done) | (simp only [sizeR] <;> omega) | fail)) only [↓preR, postR, ↓w_stop, Nat.reduceEqDiff, Nat.reduceAdd, Nat.reduceSub, Nat.reduceMul, Int.reduceNeg, Nat.reduceLT, Int.reduceToNat, Nat.reduceLeDiff, Nat.sub_zero])
      refine join_by fun J4 hJ4 => ?_
      have tail : ∀ (u3 : Value) (s7 : AS), Hs s7 X (WkR p m ops vv u3 (if b2 = true then r.2 else pushP r.2 (st.skip.left.take n) r.1) b2 R) → J4 [] s7 := by
        intro u3 s7 h7
        refine hJ4 _ _ ?_
        (try simp (maxSteps := 1000000) (dsimp := false) (disch := (first | omega | (simp only [okR]; done) | (simp only [sizeR] <;> omega) | fail)) only [↓preR, postR, ↓w_stop, Nat.reduceEqDiff, Nat.reduceAdd, Nat.reduceSub, Nat.reduceMul, Int.reduceNeg, Nat.reduceLT, Int.reduceToNat, Nat.reduceLeDiff, Nat.sub_zero])
        have hpo := push_ok (st := st) (s := r.2) (name := st.skip.left.take n) (v := r.1) (lq2.same r2 r3) hnl2 r4 (by rw [r2, r3]; omega)
        refine hk r.1 (if b2 = true then r.2 else pushP r.2 (st.skip.left.take n) r.1) b2 u3 s7 ⟨r4, ?_, ?_, a.bad, fun hb => ?_⟩ h7
        · split
          · rw [r1]; exact a.over
          · rw [hpo.2, r1]; exact a.over
        · split
          · exact lq2.same r2 r3
          · exact hpo.1
        · have a4 := a.ok hb
          rw [ev_set_in hn.symm h0 (by rw [← hrest, ← hop]) ha, ← hrest]
          cases hq : ev (lookV vars) f .set (st.skip.at (rest.drop op.length)) with
          | none => rw [hq] at a4; exact a4
          | some q =>
            rw [hq] at a4
            obtain ⟨n4, s4'⟩ := q
            obtain ⟨rfl, rfl, hb2⟩ := a4
            subst hb2
            have := r5 rfl
            simp only [← this]
            exact ⟨trivial, rfl, trivial⟩
      clear hJ4
      (try simp (maxSteps := 1000000) (dsimp := false) (disch := (first | omega | (simp only [okR]; done) | (simp only [sizeR] <;> omega) | fail)) only [↓preR, postR, ↓w_stop, Nat.reduceEqDiff, Nat.reduceAdd, Nat.reduceSub, Nat.reduceMul, Int.reduceNeg, Nat.reduceLT, Int.reduceToNat, Nat.reduceLeDiff, Nat.sub_zero])
      refine live_c h6 ?_
      cases hlv : r.2.live && !b2 with
      | false =>
        have e : (if b2 = true then r.2 else pushP r.2 (st.skip.left.take n) r.1) = r.2 := by
          cases b2 with
          | true => rfl
          | false =>
            rw [Bool.not_false, Bool.and_true] at hlv
            rw [if_neg (by decide)]
            unfold pushP
            rw [hlv, if_neg (by decide)]
        rw [e] at tail
        (try simp (maxSteps := 1000000) (dsimp := false) (disch := (first | omega | (simp only [okR]; done) | (simp only [sizeR] <;> omega) | fail)) only [↓preR, postR, ↓w_stop, Nat.reduceEqDiff, Nat.reduceAdd, Nat.reduceSub, Nat.reduceMul, Int.reduceNeg, Nat.reduceLT, Int.reduceToNat, Nat.reduceLeDiff, Nat.sub_zero])
        exact tail _ _ h6
      | true =>
        obtain ⟨hlv1, hb2⟩ := Bool.and_eq_true_iff.1 hlv
        have hb2 : b2 = false := by simpa using hb2
        subst hb2
        have e : (if false = true then r.2 else pushP r.2 (st.skip.left.take n) r.1) = { r.2 with sets := r.2.sets ++ [(st.skip.left.take n, r.1)] } := by
          rw [if_neg (by decide)]
          unfold pushP
          rw [if_pos hlv1]
        rw [e] at tail
        (try simp (maxSteps := 1000000) (dsimp := false) (disch := (first | omega | (simp only [okR]; done) | (simp only [sizeR] <;> omega) | fail)) only [↓preR, postR, ↓w_stop, Nat.reduceEqDiff, Nat.reduceAdd, Nat.reduceSub, Nat.reduceMul, Int.reduceNeg, Nat.reduceLT, Int.reduceToNat, Nat.reduceLeDiff, Nat.sub_zero, h6.obj])
        refine text_c T r4 (i + 3) h6 hg fun s7 h7 => ?_
        have hsl7 : (setsT r.2).length ≤ 1000000 := by
          rw [List.length_map, r3]; omega
        have hit := itoa_len r4
        have hm1 : (st.skip.left.take n).length ≤ maxLen := by unfold maxLen; omega
        have hm2 : (itoa r.1).length ≤ maxLen := by unfold maxLen; omega
        have g7 := (h7.new (cs := [Value.string (bs (st.skip.left.take n)), Value.string (bs (itoa r.1))])).obj1
        (try simp (maxSteps := 1000000) (dsimp := false) (disch := (first | omega | (simp only [okR]; done) | (simp only [sizeR] <;> omega) | fail)) only [↓preR, postR, ↓w_stop, Nat.reduceEqDiff, Nat.reduceAdd, Nat.reduceSub, Nat.reduceMul, Int.reduceNeg, Nat.reduceLT, Int.reduceToNat, Nat.reduceLeDiff, Nat.sub_zero, h7.obj, g7])
        refine push_by h7.swap (e := 38) (bytes := 32) (by kernel_rfl) (by kernel_rfl) (a := (st.skip.left.take n, itoa r.1)) (news := [.string (bs (st.skip.left.take n)), .string (bs (itoa r.1))]) ⟨[.string (bs (st.skip.left.take n))], [.string (bs (itoa r.1))], rfl, ⟨rfl, hm1⟩, ⟨rfl, hm2⟩⟩ (by omega) (by unfold maxLen; omega) fun u3 s8 h8 => ?_
        have em : setsT r.2 ++ [(st.skip.left.take n, itoa r.1)] = setsT { r.2 with sets := r.2.sets ++ [(st.skip.left.take n, r.1)] } := by
          show _ = List.map _ (r.2.sets ++ [(st.skip.left.take n, r.1)])
          rw [List.map_append]
          rfl
        rw [em] at h8
        obtain ⟨ux, uc, rfl, _⟩ := h8.own
        have h9 : Hs (s8.put p (.cells [.string (bs r.2.left), .map (some m), vv, .slice ux (setsT { r.2 with sets := r.2.sets ++ [(st.skip.left.take n, r.1)] }).length uc, .int .i64 r.2.over, .bool false, .int .i64 r.2.fell])) X (WkR p m ops vv _ { r.2 with sets := r.2.sets ++ [(st.skip.left.take n, r.1)] } false R) := h8.swap.put
        (try simp (maxSteps := 1000000) (dsimp := false) (disch := (first | omega | (simp only [okR]; done) | (simp only [sizeR] <;> omega) | fail)) only [↓preR, postR, ↓w_stop, Nat.reduceEqDiff, Nat.reduceAdd, Nat.reduceSub, Nat.reduceMul, Int.reduceNeg, Nat.reduceLT, Int.reduceToNat, Nat.reduceLeDiff, Nat.sub_zero, h8.swap.obj])
        exact tail _ _ h9
    clear hJ3
    by_cases e6 : op = [61]
    · have p6 : (op = ([61] : Str)) = True := eq_true e6
      (try simp (maxSteps := 1000000) (dsimp := false) (disch := (first | omega | (simp only [okR]; done) | (simp only [sizeR] <;> omega) | fail)) only [↓preR, postR, ↓w_stop, Nat.reduceEqDiff, Nat.reduceAdd, Nat.reduceSub, Nat.reduceMul, Int.reduceNeg, Nat.reduceLT, Int.reduceToNat, Nat.reduceLeDiff, Nat.sub_zero, p6])
      exact fin (v, st2) _ rfl rfl rfl a.num (fun _ => by rw [if_pos e6]) h5
    · obtain ⟨c, hc1, hc2⟩ : ∃ c, op = [c, 61] ∧ (c = 43 ∨ c = 45 ∨ c = 42 ∨ c = 47 ∨ c = 37) := by
        rcases asgn_cases ha with h | h
        · exact absurd h e6
        · exact h
      have hl1 : op.length = 2 := by rw [hc1]; rfl
      have ht1 : op.take 1 = [c] := by rw [hc1]; rfl
      have hrk : ¬ rankOf [c] = 0 ∧ ¬ rankOf [c] = 1 ∧ ¬ rankOf [c] = 2 := by
        rcases hc2 with rfl | rfl | rfl | rfl | rfl <;> decide
      (try simp (maxSteps := 1000000) (dsimp := false) (disch := (first | omega | (simp only [okR]; done) | (simp only [sizeR] <;> omega) | fail)) only [↓preR, postR, ↓w_stop, Nat.reduceEqDiff, Nat.reduceAdd, Nat.reduceSub, Nat.reduceMul, Int.reduceNeg, Nat.reduceLT, Int.reduceToNat, Nat.reduceLeDiff, Nat.sub_zero, e6, hl1, ht1])
      refine ask_c (B := B) hV hE a.lq.s h5 fun s6 h6 => ?_
      have hask : (askB (lookV vars) st2 b2 (st.skip.left.take n)).2.over = st2.over ∧ (askB (lookV vars) st2 b2 (st.skip.left.take n)).2.left = st2.left ∧ (askB (lookV vars) st2 b2 (st.skip.left.take n)).2.sets = st2.sets ∧ inI64 (askB (lookV vars) st2 b2 (st.skip.left.take n)).1 := by
        unfold askB
        split
        · exact ⟨rfl, rfl, rfl, by unfold inI64; omega⟩
        · exact ask_ok hL a.lq.s _
      have heq : b2 = false → askB (lookV vars) st2 b2 (st.skip.left.take n) = askP (lookV vars) st2 (st.skip.left.take n) := fun h => by rw [h]; rfl
      generalize askB (lookV vars) st2 b2 (st.skip.left.take n) = qa at h6 hask heq ⊢
      obtain ⟨a1, sa⟩ := qa
      obtain ⟨k1, k2, k3, k4⟩ := hask
      (try simp (maxSteps := 1000000) (dsimp := false) (disch := (first | omega | (simp only [okR]; done) | (simp only [sizeR] <;> omega) | fail)) only [↓preR, postR, ↓w_stop, Nat.reduceEqDiff, Nat.reduceAdd, Nat.reduceSub, Nat.reduceMul, Int.reduceNeg, Nat.reduceLT, Int.reduceToNat, Nat.reduceLeDiff, Nat.sub_zero])
      refine does_c hO hrk.1 hrk.2.1 hrk.2.2 k4 a.num h6 fun s7 h7 => ?_
      have dk : (doesB [c] a1 v sa b2).2.over = sa.over ∧ (doesB [c] a1 v sa b2).2.left = sa.left ∧ (doesB [c] a1 v sa b2).2.sets = sa.sets ∧ inI64 (doesB [c] a1 v sa b2).1 := by
        unfold doesB
        split
        · exact ⟨rfl, rfl, rfl, by unfold inI64; omega⟩
        · exact does_ok [c] sa k4 a.num
      (try simp (maxSteps := 1000000) (dsimp := false) (disch := (first | omega | (simp only [okR]; done) | (simp only [sizeR] <;> omega) | fail)) only [↓preR, postR, ↓w_stop, Nat.reduceEqDiff, Nat.reduceAdd, Nat.reduceSub, Nat.reduceMul, Int.reduceNeg, Nat.reduceLT, Int.reduceToNat, Nat.reduceLeDiff, Nat.sub_zero])
      refine fin (doesB [c] a1 v sa b2) _ (dk.1.trans k1) (dk.2.1.trans k2) (dk.2.2.1.trans k3) dk.2.2.2 (fun hb2 => ?_) h7
      rw [if_neg e6, ht1, ← heq hb2, hb2]
      rfl
  clear hJ2
  have yes_ : asgn op = true → J5 [.bool true] s3 := by
    intro ha
    refine hJ5 _ _ ?_
    (try simp (maxSteps := 1000000) (dsimp := false) (disch := (first | omega | (simp only [okR]; done) | (simp only [sizeR] <;> omega) | fail)) only [↓preR, postR, ↓w_stop, Nat.reduceEqDiff, Nat.reduceAdd, Nat.reduceSub, Nat.reduceMul, Int.reduceNeg, Nat.reduceLT, Int.reduceToNat, Nat.reduceLeDiff, Nat.sub_zero])
    exact fin ha
  have no_ : asgn op = false → J5 [.bool false] s3 := by
    intro ha
    refine hJ5 _ _ ?_
    have h4 := h3.put (cs' := wkC st.skip b m vv u)
    (try simp (maxSteps := 1000000) (dsimp := false) (disch := (first | omega | (simp only [okR]; done) | (simp only [sizeR] <;> omega) | fail)) only [↓preR, postR, ↓w_stop, Nat.reduceEqDiff, Nat.reduceAdd, Nat.reduceSub, Nat.reduceMul, Int.reduceNeg, Nat.reduceLT, Int.reduceToNat, Nat.reduceLeDiff, Nat.sub_zero, h3.obj])
    exact out (fun h => by rw [← hrest, ← hop, ha] at h; cases h.2) _ _ h4
  clear hJ5 fin
  have six := asgn_six op
  by_cases e1 : op = [43, 61]
  · have pe : (op = ([43, 61] : Str)) = True := eq_true e1
    (try simp (maxSteps := 1000000) (dsimp := false) (disch := (first | omega | (simp only [okR]; done) | (simp only [sizeR] <;> omega) | fail)) only [↓preR, postR, ↓w_stop, Nat.reduceEqDiff, Nat.reduceAdd, Nat.reduceSub, Nat.reduceMul, Int.reduceNeg, Nat.reduceLT, Int.reduceToNat, Nat.reduceLeDiff, Nat.sub_zero, pe])
    exact yes_ (by rw [e1]; rfl)
  by_cases e2 : op = [45, 61]
  · have pe : (op = ([45, 61] : Str)) = True := eq_true e2
    (try simp (maxSteps := 1000000) (dsimp := false) (disch := (first | omega | (simp only [okR]; done) | (simp only [sizeR] <;> omega) | fail)) only [↓preR, postR, ↓w_stop, Nat.reduceEqDiff, Nat.reduceAdd, Nat.reduceSub, Nat.reduceMul, Int.reduceNeg, Nat.reduceLT, Int.reduceToNat, Nat.reduceLeDiff, Nat.sub_zero, e1, pe])
    exact yes_ (by rw [e2]; rfl)
  by_cases e3 : op = [42, 61]
  · have pe : (op = ([42, 61] : Str)) = True := eq_true e3
    (try simp (maxSteps := 1000000) (dsimp := false) (disch := (first | omega | (simp only [okR]; done) | (simp only [sizeR] <;> omega) | fail)) only [↓preR, postR, ↓w_stop, Nat.reduceEqDiff, Nat.reduceAdd, Nat.reduceSub, Nat.reduceMul, Int.reduceNeg, Nat.reduceLT, Int.reduceToNat, Nat.reduceLeDiff, Nat.sub_zero, e1, e2, pe])
    exact yes_ (by rw [e3]; rfl)
  by_cases e4 : op = [47, 61]
  · have pe : (op = ([47, 61] : Str)) = True := eq_true e4
    (try simp (maxSteps := 1000000) (dsimp := false) (disch := (first | omega | (simp only [okR]; done) | (simp only [sizeR] <;> omega) | fail)) only [↓preR, postR, ↓w_stop, Nat.reduceEqDiff, Nat.reduceAdd, Nat.reduceSub, Nat.reduceMul, Int.reduceNeg, Nat.reduceLT, Int.reduceToNat, Nat.reduceLeDiff, Nat.sub_zero, e1, e2, e3, pe])
    exact yes_ (by rw [e4]; rfl)
  by_cases e5 : op = [37, 61]
  · have pe : (op = ([37, 61] : Str)) = True := eq_true e5
    (try simp (maxSteps := 1000000) (dsimp := false) (disch := (first | omega | (simp only [okR]; done) | (simp only [sizeR] <;> omega) | fail)) only [↓preR, postR, ↓w_stop, Nat.reduceEqDiff, Nat.reduceAdd, Nat.reduceSub, Nat.reduceMul, Int.reduceNeg, Nat.reduceLT, Int.reduceToNat, Nat.reduceLeDiff, Nat.sub_zero, e1, e2, e3, e4, pe])
    exact yes_ (by rw [e5]; rfl)
  rw [decide_eq_false e1, decide_eq_false e2, decide_eq_false e3, decide_eq_false e4, decide_eq_false e5] at six
  simp only [Bool.false_or] at six
  (try simp (maxSteps := 1000000) (dsimp := false) (disch := (first | omega | (simp only [okR]; done) | (simp only [sizeR] <;> omega) | fail)) only [↓preR, postR, ↓w_stop, Nat.reduceEqDiff, Nat.reduceAdd, Nat.reduceSub, Nat.reduceMul, Int.reduceNeg, Nat.reduceLT, Int.reduceToNat, Nat.reduceLeDiff, Nat.sub_zero, e1, e2, e3, e4, e5])
  rw [← six]
  cases ha : asgn op with
  | true => exact yes_ ha
  | false => exact no_ ha
end
end Go.Proofs.YtkbpbagjbjkpmaaGreatDoor

/- The worker at an expression: all its calls; the operators. Conditions: as each theorem says. -/
namespace Go.Proofs.YtkbpbagjbjkpmaaGreatDoor
open E Go.Lib
open Rp
set_option linter.unusedVariables false
set_option linter.unusedSimpArgs false
set_option maxHeartbeats 1000000
set_option maxRecDepth 20000

theorem needs_pos {md : Md} {L : Nat} (h : ∀ r, md = .rank r → r ≤ 11) : ¬ needs md L ≤ 0 := by
  cases md with
  | rank r => have := h r rfl; simp only [needs]; omega
  | _ => simp only [needs]; omega
theorem all_c {X : Ce} {p m : Nat} {ops : List (Str × Value)} {vv : Value} {B : Nat} {g : Nat} {o : Go.Obj} {vars : List (Str × Str)} (hB : B ≤ 1000000) (T : VarAt Tryz.prog "internal/strconv.uint64pow10" g o powV) (hO : OpsOk X ops) (hE : ErrI X) (hV : VarsI X vv vars) (hL : LookI (lookV vars)) :
    ∀ f n, n ≤ f → AllC X p m ops vv B (lookV vars) g o n := by
  intro f
  induction f with
  | zero =>
    intro n hn
    have : n = 0 := by omega
    subst this
    exact ⟨fun σ R k st b u i h => absurd h (needs_pos fun r h => by cases h), fun σ R k st b u i h => absurd h (needs_pos fun r h => by cases h), fun r _ hr σ R k st b u i h => absurd h (needs_pos fun r h => by cases h; exact hr), fun σ R k st b u i h => absurd h (needs_pos fun r h => by cases h)⟩
  | succ f ih =>
    intro n hn
    by_cases h : n ≤ f
    · exact ih n h
    · have : n = f + 1 := by omega
      subst this
      exact ⟨set_c hB T hO hE hV hL ih, choice_c hB hO hE hV hL ih, fun r h1 h2 => rank_c h1 h2 hB hO hE hV hL ih, opnd_c hB hO hE hV hL (ih f (Nat.le_refl _))⟩
theorem and_v (a b : Int) : binV .and (.int .i64 a) (.int .i64 b) = some (.int .i64 (bI .and a b)) := rfl
theorem and_b (a b : Int) : bI .and a b = IntKind.i64.wrap ((BitVec.ofInt 64 a &&& BitVec.ofInt 64 b).toNat : Int) := rfl
theorem and63 (b : Int) : binV .and (.int .i64 b) (.int .i64 63) = some (.int .i64 (b % 64)) := by
  have e : (BitVec.ofInt 64 b &&& BitVec.ofInt 64 63).toNat = (b % ((2 ^ 64 : Nat) : Int)).toNat % 64 := by
    rw [BitVec.toNat_and, show (BitVec.ofInt 64 63).toNat = 2 ^ 6 - 1 from by decide, Nat.and_two_pow_sub_one_eq_mod, BitVec.toNat_ofInt]
  have e2 : bI .and b 63 = b % 64 := by
    rw [and_b, e, IntKind.wrap_i64]
    omega
  rw [and_v, e2]
theorem or_v (a b : Int) : binV .or (.int .i64 a) (.int .i64 b) = some (.int .i64 (bI .or a b)) := rfl
theorem xor_v (a b : Int) : binV .xor (.int .i64 a) (.int .i64 b) = some (.int .i64 (bI .xor a b)) := rfl
theorem shl_v (a b : Int) : sftV .shl (.int .i64 a) (.int .i64 (b % 64)) = some (.int .i64 (shI .shl a b)) := by
  have h : ¬ b % 64 < 0 := by omega
  unfold shI
  simp only [sftV, shV, if_neg h]
theorem shr_v (a b : Int) : sftV .shr (.int .i64 a) (.int .i64 (b % 64)) = some (.int .i64 (shI .shr a b)) := by
  have h : ¬ b % 64 < 0 := by omega
  unfold shI
  simp only [sftV, shV, if_neg h]
abbrev fv0 (fn : Nat) : Value := .func (.func fn) #[] #[]
section
variable {X : Ce} {σ : AS} {R : List Ck} {k : Value → AS → Prop} {q q2 fn : Nat} {op : Str}
/-- A function that takes two numbers. -/
def Two (op : Str) (fn : Nat) : Prop := ∀ (σ : AS) (a b : Int) (k : Value → AS → Prop), inI64 a → inI64 b → k (.int .i64 (doP op a b).1) σ → kCall Tryz.prog fn [.int .i64 a, .int .i64 b] σ k
theorem plain_ok (hc : X q 0 = some (fv0 fn)) (hf : okFn Tryz.prog fn = true) (h2 : ∀ a b, (doP op a b).2 = 0) (hfn : Two op fn) : FnOk X op (.func (.func 75) #[] #[pvw q]) := by
  intro σ R a b k ha hb h hk
  refine callv_by (a := []) (b := [pvw q]) (by kernel_rfl) ?_
  refine f75 ?_
  have g1 := h.ldx hc
  have hk2 := hk σ h
  rw [h2] at hk2
  (try simp (maxSteps := 1000000) (dsimp := false) (disch := (first | omega | (simp only [okR]; done) | (simp only [sizeR] <;> omega) | fail)) only [↓preR, postR, ↓w_stop, Nat.reduceEqDiff, Nat.reduceAdd, Nat.reduceSub, Nat.reduceMul, Int.reduceNeg, Nat.reduceLT, Int.reduceToNat, Nat.reduceLeDiff, Nat.sub_zero, F75, g1])
  refine callv_by (a := []) (b := []) hf (hfn _ _ _ _ ha hb ?_)
  (try simp (maxSteps := 1000000) (dsimp := false) (disch := (first | omega | (simp only [okR]; done) | (simp only [sizeR] <;> omega) | fail)) only [↓preR, postR, ↓w_stop, Nat.reduceEqDiff, Nat.reduceAdd, Nat.reduceSub, Nat.reduceMul, Int.reduceNeg, Nat.reduceLT, Int.reduceToNat, Nat.reduceLeDiff, Nat.sub_zero])
  exact hk2
theorem over_ok {least : Int} (hc : X q 0 = some (fv0 fn)) (hc2 : X q2 0 = some (.int .i64 least)) (hf : okFn Tryz.prog fn = true)
    (h0 : ∀ a, doP op a 0 = (0, 13)) (hl : doP op lowI (-1) = (least, 0)) (h2 : ∀ a b, ¬ b = 0 → ¬ (a = lowI ∧ b = -1) → (doP op a b).2 = 0)
    (hfn : ∀ (σ : AS) (a b : Int) (k : Value → AS → Prop), inI64 a → inI64 b → ¬ b = 0 → ¬ (a = lowI ∧ b = -1) → k (.int .i64 (doP op a b).1) σ → kCall Tryz.prog fn [.int .i64 a, .int .i64 b] σ k) : FnOk X op (.func (.func 76) #[] #[pvw q2, pvw q]) := by
  intro σ R a b k ha hb h hk
  refine callv_by (a := []) (b := [pvw q2, pvw q]) (by kernel_rfl) ?_
  refine f76 ?_
  have g1 := h.ldx hc
  have g2 := h.ldx hc2
  have hk2 := hk σ h
  (try simp (maxSteps := 1000000) (dsimp := false) (disch := (first | omega | (simp only [okR]; done) | (simp only [sizeR] <;> omega) | fail)) only [↓preR, postR, ↓w_stop, Nat.reduceEqDiff, Nat.reduceAdd, Nat.reduceSub, Nat.reduceMul, Int.reduceNeg, Nat.reduceLT, Int.reduceToNat, Nat.reduceLeDiff, Nat.sub_zero, F76])
  refine join_by fun J1 hJ1 => ?_
  by_cases hb0 : b = 0
  · subst hb0
    rw [h0] at hk2
    (try simp (maxSteps := 1000000) (dsimp := false) (disch := (first | omega | (simp only [okR]; done) | (simp only [sizeR] <;> omega) | fail)) only [↓preR, postR, ↓w_stop, Nat.reduceEqDiff, Nat.reduceAdd, Nat.reduceSub, Nat.reduceMul, Int.reduceNeg, Nat.reduceLT, Int.reduceToNat, Nat.reduceLeDiff, Nat.sub_zero])
    exact hk2
  have go : ¬ (a = lowI ∧ b = -1) → J1 [] σ := by
    intro hn
    rw [h2 a b hb0 hn] at hk2
    refine hJ1 _ _ ?_
    (try simp (maxSteps := 1000000) (dsimp := false) (disch := (first | omega | (simp only [okR]; done) | (simp only [sizeR] <;> omega) | fail)) only [↓preR, postR, ↓w_stop, Nat.reduceEqDiff, Nat.reduceAdd, Nat.reduceSub, Nat.reduceMul, Int.reduceNeg, Nat.reduceLT, Int.reduceToNat, Nat.reduceLeDiff, Nat.sub_zero, g1])
    refine callv_by (a := []) (b := []) hf (hfn _ _ _ _ ha hb hb0 hn ?_)
    (try simp (maxSteps := 1000000) (dsimp := false) (disch := (first | omega | (simp only [okR]; done) | (simp only [sizeR] <;> omega) | fail)) only [↓preR, postR, ↓w_stop, Nat.reduceEqDiff, Nat.reduceAdd, Nat.reduceSub, Nat.reduceMul, Int.reduceNeg, Nat.reduceLT, Int.reduceToNat, Nat.reduceLeDiff, Nat.sub_zero])
    exact hk2
  clear hJ1
  by_cases hal : a = lowI
  · by_cases hbl : b = -1
    · subst hal
      subst hbl
      rw [hl] at hk2
      have e : (lowI = -9223372036854775808) = True := eq_true rfl
      (try simp (maxSteps := 1000000) (dsimp := false) (disch := (first | omega | (simp only [okR]; done) | (simp only [sizeR] <;> omega) | fail)) only [↓preR, postR, ↓w_stop, Nat.reduceEqDiff, Nat.reduceAdd, Nat.reduceSub, Nat.reduceMul, Int.reduceNeg, Nat.reduceLT, Int.reduceToNat, Nat.reduceLeDiff, Nat.sub_zero, e, g2])
      exact hk2
    · have e : (a = -9223372036854775808) = True := eq_true hal
      (try simp (maxSteps := 1000000) (dsimp := false) (disch := (first | omega | (simp only [okR]; done) | (simp only [sizeR] <;> omega) | fail)) only [↓preR, postR, ↓w_stop, Nat.reduceEqDiff, Nat.reduceAdd, Nat.reduceSub, Nat.reduceMul, Int.reduceNeg, Nat.reduceLT, Int.reduceToNat, Nat.reduceLeDiff, Nat.sub_zero, hb0, e, hbl])
      exact go (fun h => hbl h.2)
  · have e : ¬ a = -9223372036854775808 := hal
    (try simp (maxSteps := 1000000) (dsimp := false) (disch := (first | omega | (simp only [okR]; done) | (simp only [sizeR] <;> omega) | fail)) only [↓preR, postR, ↓w_stop, Nat.reduceEqDiff, Nat.reduceAdd, Nat.reduceSub, Nat.reduceMul, Int.reduceNeg, Nat.reduceLT, Int.reduceToNat, Nat.reduceLeDiff, Nat.sub_zero, hb0, e])
    exact go (fun h => hal h.1)
theorem two_or : Two [124] 35 := fun σ a b k ha hb hk => by
  refine f35 ?_
  (try simp (maxSteps := 1000000) (dsimp := false) (disch := (first | omega | (simp only [okR]; done) | (simp only [sizeR] <;> omega) | fail)) only [↓preR, postR, ↓w_stop, Nat.reduceEqDiff, Nat.reduceAdd, Nat.reduceSub, Nat.reduceMul, Int.reduceNeg, Nat.reduceLT, Int.reduceToNat, Nat.reduceLeDiff, Nat.sub_zero, F35, or_v])
  exact hk
theorem two_xor : Two [94] 36 := fun σ a b k ha hb hk => by
  refine f36 ?_
  (try simp (maxSteps := 1000000) (dsimp := false) (disch := (first | omega | (simp only [okR]; done) | (simp only [sizeR] <;> omega) | fail)) only [↓preR, postR, ↓w_stop, Nat.reduceEqDiff, Nat.reduceAdd, Nat.reduceSub, Nat.reduceMul, Int.reduceNeg, Nat.reduceLT, Int.reduceToNat, Nat.reduceLeDiff, Nat.sub_zero, F36, xor_v])
  exact hk
theorem two_and : Two [38] 37 := fun σ a b k ha hb hk => by
  refine f37 ?_
  (try simp (maxSteps := 1000000) (dsimp := false) (disch := (first | omega | (simp only [okR]; done) | (simp only [sizeR] <;> omega) | fail)) only [↓preR, postR, ↓w_stop, Nat.reduceEqDiff, Nat.reduceAdd, Nat.reduceSub, Nat.reduceMul, Int.reduceNeg, Nat.reduceLT, Int.reduceToNat, Nat.reduceLeDiff, Nat.sub_zero, F37, and_v])
  exact hk
theorem two_eq : Two [61, 61] 38 := fun σ a b k ha hb hk => by
  refine f38 ?_
  (try simp (maxSteps := 1000000) (dsimp := false) (disch := (first | omega | (simp only [okR]; done) | (simp only [sizeR] <;> omega) | fail)) only [↓preR, postR, ↓w_stop, Nat.reduceEqDiff, Nat.reduceAdd, Nat.reduceSub, Nat.reduceMul, Int.reduceNeg, Nat.reduceLT, Int.reduceToNat, Nat.reduceLeDiff, Nat.sub_zero, F38])
  refine yes_c ?_
  (try simp (maxSteps := 1000000) (dsimp := false) (disch := (first | omega | (simp only [okR]; done) | (simp only [sizeR] <;> omega) | fail)) only [↓preR, postR, ↓w_stop, Nat.reduceEqDiff, Nat.reduceAdd, Nat.reduceSub, Nat.reduceMul, Int.reduceNeg, Nat.reduceLT, Int.reduceToNat, Nat.reduceLeDiff, Nat.sub_zero])
  exact hk
theorem two_ne : Two [33, 61] 40 := fun σ a b k ha hb hk => by
  refine f40 ?_
  (try simp (maxSteps := 1000000) (dsimp := false) (disch := (first | omega | (simp only [okR]; done) | (simp only [sizeR] <;> omega) | fail)) only [↓preR, postR, ↓w_stop, Nat.reduceEqDiff, Nat.reduceAdd, Nat.reduceSub, Nat.reduceMul, Int.reduceNeg, Nat.reduceLT, Int.reduceToNat, Nat.reduceLeDiff, Nat.sub_zero, F40])
  refine yes_c ?_
  (try simp (maxSteps := 1000000) (dsimp := false) (disch := (first | omega | (simp only [okR]; done) | (simp only [sizeR] <;> omega) | fail)) only [↓preR, postR, ↓w_stop, Nat.reduceEqDiff, Nat.reduceAdd, Nat.reduceSub, Nat.reduceMul, Int.reduceNeg, Nat.reduceLT, Int.reduceToNat, Nat.reduceLeDiff, Nat.sub_zero])
  first
    | exact hk
    | (rw [show (!decide (a = b)) = decide (¬ a = b) from (by simp)]; exact hk)
theorem two_lt : Two [60] 41 := fun σ a b k ha hb hk => by
  refine f41 ?_
  (try simp (maxSteps := 1000000) (dsimp := false) (disch := (first | omega | (simp only [okR]; done) | (simp only [sizeR] <;> omega) | fail)) only [↓preR, postR, ↓w_stop, Nat.reduceEqDiff, Nat.reduceAdd, Nat.reduceSub, Nat.reduceMul, Int.reduceNeg, Nat.reduceLT, Int.reduceToNat, Nat.reduceLeDiff, Nat.sub_zero, F41])
  refine yes_c ?_
  (try simp (maxSteps := 1000000) (dsimp := false) (disch := (first | omega | (simp only [okR]; done) | (simp only [sizeR] <;> omega) | fail)) only [↓preR, postR, ↓w_stop, Nat.reduceEqDiff, Nat.reduceAdd, Nat.reduceSub, Nat.reduceMul, Int.reduceNeg, Nat.reduceLT, Int.reduceToNat, Nat.reduceLeDiff, Nat.sub_zero])
  exact hk
theorem two_le : Two [60, 61] 42 := fun σ a b k ha hb hk => by
  refine f42 ?_
  (try simp (maxSteps := 1000000) (dsimp := false) (disch := (first | omega | (simp only [okR]; done) | (simp only [sizeR] <;> omega) | fail)) only [↓preR, postR, ↓w_stop, Nat.reduceEqDiff, Nat.reduceAdd, Nat.reduceSub, Nat.reduceMul, Int.reduceNeg, Nat.reduceLT, Int.reduceToNat, Nat.reduceLeDiff, Nat.sub_zero, F42])
  refine yes_c ?_
  (try simp (maxSteps := 1000000) (dsimp := false) (disch := (first | omega | (simp only [okR]; done) | (simp only [sizeR] <;> omega) | fail)) only [↓preR, postR, ↓w_stop, Nat.reduceEqDiff, Nat.reduceAdd, Nat.reduceSub, Nat.reduceMul, Int.reduceNeg, Nat.reduceLT, Int.reduceToNat, Nat.reduceLeDiff, Nat.sub_zero])
  exact hk
theorem two_gt : Two [62] 43 := fun σ a b k ha hb hk => by
  refine f43 ?_
  (try simp (maxSteps := 1000000) (dsimp := false) (disch := (first | omega | (simp only [okR]; done) | (simp only [sizeR] <;> omega) | fail)) only [↓preR, postR, ↓w_stop, Nat.reduceEqDiff, Nat.reduceAdd, Nat.reduceSub, Nat.reduceMul, Int.reduceNeg, Nat.reduceLT, Int.reduceToNat, Nat.reduceLeDiff, Nat.sub_zero, F43])
  refine yes_c ?_
  (try simp (maxSteps := 1000000) (dsimp := false) (disch := (first | omega | (simp only [okR]; done) | (simp only [sizeR] <;> omega) | fail)) only [↓preR, postR, ↓w_stop, Nat.reduceEqDiff, Nat.reduceAdd, Nat.reduceSub, Nat.reduceMul, Int.reduceNeg, Nat.reduceLT, Int.reduceToNat, Nat.reduceLeDiff, Nat.sub_zero])
  exact hk
theorem two_ge : Two [62, 61] 44 := fun σ a b k ha hb hk => by
  refine f44 ?_
  (try simp (maxSteps := 1000000) (dsimp := false) (disch := (first | omega | (simp only [okR]; done) | (simp only [sizeR] <;> omega) | fail)) only [↓preR, postR, ↓w_stop, Nat.reduceEqDiff, Nat.reduceAdd, Nat.reduceSub, Nat.reduceMul, Int.reduceNeg, Nat.reduceLT, Int.reduceToNat, Nat.reduceLeDiff, Nat.sub_zero, F44])
  refine yes_c ?_
  (try simp (maxSteps := 1000000) (dsimp := false) (disch := (first | omega | (simp only [okR]; done) | (simp only [sizeR] <;> omega) | fail)) only [↓preR, postR, ↓w_stop, Nat.reduceEqDiff, Nat.reduceAdd, Nat.reduceSub, Nat.reduceMul, Int.reduceNeg, Nat.reduceLT, Int.reduceToNat, Nat.reduceLeDiff, Nat.sub_zero])
  exact hk
theorem two_shl : Two [60, 60] 45 := fun σ a b k ha hb hk => by
  refine f45 ?_
  (try simp (maxSteps := 1000000) (dsimp := false) (disch := (first | omega | (simp only [okR]; done) | (simp only [sizeR] <;> omega) | fail)) only [↓preR, postR, ↓w_stop, Nat.reduceEqDiff, Nat.reduceAdd, Nat.reduceSub, Nat.reduceMul, Int.reduceNeg, Nat.reduceLT, Int.reduceToNat, Nat.reduceLeDiff, Nat.sub_zero, F45, and63, shl_v])
  exact hk
theorem two_shr : Two [62, 62] 46 := fun σ a b k ha hb hk => by
  refine f46 ?_
  (try simp (maxSteps := 1000000) (dsimp := false) (disch := (first | omega | (simp only [okR]; done) | (simp only [sizeR] <;> omega) | fail)) only [↓preR, postR, ↓w_stop, Nat.reduceEqDiff, Nat.reduceAdd, Nat.reduceSub, Nat.reduceMul, Int.reduceNeg, Nat.reduceLT, Int.reduceToNat, Nat.reduceLeDiff, Nat.sub_zero, F46, and63, shr_v])
  exact hk
theorem two_add : Two [43] 47 := fun σ a b k ha hb hk => by
  refine f47 ?_
  (try simp (maxSteps := 1000000) (dsimp := false) (disch := (first | omega | (simp only [okR]; done) | (simp only [sizeR] <;> omega) | fail)) only [↓preR, postR, ↓w_stop, Nat.reduceEqDiff, Nat.reduceAdd, Nat.reduceSub, Nat.reduceMul, Int.reduceNeg, Nat.reduceLT, Int.reduceToNat, Nat.reduceLeDiff, Nat.sub_zero, F47])
  exact hk
theorem two_sub : Two [45] 48 := fun σ a b k ha hb hk => by
  refine f48 ?_
  (try simp (maxSteps := 1000000) (dsimp := false) (disch := (first | omega | (simp only [okR]; done) | (simp only [sizeR] <;> omega) | fail)) only [↓preR, postR, ↓w_stop, Nat.reduceEqDiff, Nat.reduceAdd, Nat.reduceSub, Nat.reduceMul, Int.reduceNeg, Nat.reduceLT, Int.reduceToNat, Nat.reduceLeDiff, Nat.sub_zero, F48])
  exact hk
theorem two_mul : Two [42] 49 := fun σ a b k ha hb hk => by
  refine f49 ?_
  (try simp (maxSteps := 1000000) (dsimp := false) (disch := (first | omega | (simp only [okR]; done) | (simp only [sizeR] <;> omega) | fail)) only [↓preR, postR, ↓w_stop, Nat.reduceEqDiff, Nat.reduceAdd, Nat.reduceSub, Nat.reduceMul, Int.reduceNeg, Nat.reduceLT, Int.reduceToNat, Nat.reduceLeDiff, Nat.sub_zero, F49])
  exact hk
theorem do_quo {a b : Int} : doP [47] a b = if b = 0 then (0, 13) else if a = lowI ∧ b = -1 then (lowI, 0) else (wI (a.tdiv b), 0) := rfl
theorem do_rem {a b : Int} : doP [37] a b = if b = 0 then (0, 13) else if a = lowI ∧ b = -1 then (0, 0) else (a.tmod b, 0) := rfl
theorem quo_ok (hc : X q 0 = some (fv0 51)) (hc2 : X q2 0 = some (.int .i64 (-9223372036854775808))) : FnOk X [47] (.func (.func 76) #[] #[pvw q2, pvw q]) := by
  refine over_ok hc hc2 (by kernel_rfl) (fun a => by rw [do_quo, if_pos rfl]) (by rw [do_quo, if_neg (by decide), if_pos ⟨rfl, rfl⟩]; rfl) (fun a b h1 h2 => by rw [do_quo, if_neg h1, if_neg h2]) fun σ a b k ha hb h1 h2 hk => ?_
  rw [do_quo, if_neg h1, if_neg h2] at hk
  refine f51 ?_
  (try simp (maxSteps := 1000000) (dsimp := false) (disch := (first | omega | (simp only [okR]; done) | (simp only [sizeR] <;> omega) | fail)) only [↓preR, postR, ↓w_stop, Nat.reduceEqDiff, Nat.reduceAdd, Nat.reduceSub, Nat.reduceMul, Int.reduceNeg, Nat.reduceLT, Int.reduceToNat, Nat.reduceLeDiff, Nat.sub_zero, F51, h1])
  exact hk
theorem rem_ok (hc : X q 0 = some (fv0 52)) (hc2 : X q2 0 = some (.int .i64 0)) : FnOk X [37] (.func (.func 76) #[] #[pvw q2, pvw q]) := by
  refine over_ok hc hc2 (by kernel_rfl) (fun a => by rw [do_rem, if_pos rfl]) (by rw [do_rem, if_neg (by decide), if_pos ⟨rfl, rfl⟩]) (fun a b h1 h2 => by rw [do_rem, if_neg h1, if_neg h2]) fun σ a b k ha hb h1 h2 hk => ?_
  rw [do_rem, if_neg h1, if_neg h2] at hk
  refine f52 ?_
  (try simp (maxSteps := 1000000) (dsimp := false) (disch := (first | omega | (simp only [okR]; done) | (simp only [sizeR] <;> omega) | fail)) only [↓preR, postR, ↓w_stop, Nat.reduceEqDiff, Nat.reduceAdd, Nat.reduceSub, Nat.reduceMul, Int.reduceNeg, Nat.reduceLT, Int.reduceToNat, Nat.reduceLeDiff, Nat.sub_zero, F52, h1])
  exact hk
end
end Go.Proofs.YtkbpbagjbjkpmaaGreatDoor

/- The worker at an expression: the table of operators. Conditions: as each theorem says. -/
namespace Go.Proofs.YtkbpbagjbjkpmaaGreatDoor
open E Go.Lib
open Rp
set_option linter.unusedVariables false
set_option linter.unusedSimpArgs false
set_option maxHeartbeats 1000000
set_option maxRecDepth 20000

abbrev opL (v1 v2 v3 v4 v5 v6 v7 v8 v9 v10 v11 v12 v13 v14 v15 v16 v17 v18 : Value) : List (Str × Value) := [([124, 124], .agg #[.int .i64 1, v1]), ([38, 38], .agg #[.int .i64 2, v2]), ([124], .agg #[.int .i64 3, v3]), ([94], .agg #[.int .i64 4, v4]), ([38], .agg #[.int .i64 5, v5]), ([61, 61], .agg #[.int .i64 6, v6]), ([33, 61], .agg #[.int .i64 6, v7]), ([60], .agg #[.int .i64 7, v8]), ([60, 61], .agg #[.int .i64 7, v9]), ([62], .agg #[.int .i64 7, v10]), ([62, 61], .agg #[.int .i64 7, v11]), ([60, 60], .agg #[.int .i64 8, v12]), ([62, 62], .agg #[.int .i64 8, v13]), ([43], .agg #[.int .i64 9, v14]), ([45], .agg #[.int .i64 9, v15]), ([42], .agg #[.int .i64 10, v16]), ([47], .agg #[.int .i64 10, v17]), ([37], .agg #[.int .i64 10, v18])]
abbrev opNames : List Str := [[124, 124], [38, 38], [124], [94], [38], [61, 61], [33, 61], [60], [60, 61], [62], [62, 61], [60, 60], [62, 62], [43], [45], [42], [47], [37]]
theorem rank_cases {op : Str} (h : ¬ rankOf op = 0) : op ∈ opNames := by
  unfold rankOf at h
  split at h <;> first | (exact absurd rfl h) | decide
theorem rank_names : ∀ op, op ∈ opNames → ¬ rankOf op = 0 := by decide
theorem opL_ok {X : Ce} {v1 v2 v3 v4 v5 v6 v7 v8 v9 v10 v11 v12 v13 v14 v15 v16 v17 v18 : Value} (k1 : okCell v1 = true) (k2 : okCell v2 = true)
    (k3 : okCell v3 = true) (f3 : FnOk X [124] v3) (k4 : okCell v4 = true) (f4 : FnOk X [94] v4) (k5 : okCell v5 = true) (f5 : FnOk X [38] v5) (k6 : okCell v6 = true) (f6 : FnOk X [61, 61] v6) (k7 : okCell v7 = true) (f7 : FnOk X [33, 61] v7) (k8 : okCell v8 = true) (f8 : FnOk X [60] v8) (k9 : okCell v9 = true) (f9 : FnOk X [60, 61] v9) (k10 : okCell v10 = true) (f10 : FnOk X [62] v10) (k11 : okCell v11 = true) (f11 : FnOk X [62, 61] v11) (k12 : okCell v12 = true) (f12 : FnOk X [60, 60] v12) (k13 : okCell v13 = true) (f13 : FnOk X [62, 62] v13) (k14 : okCell v14 = true) (f14 : FnOk X [43] v14) (k15 : okCell v15 = true) (f15 : FnOk X [45] v15) (k16 : okCell v16 = true) (f16 : FnOk X [42] v16) (k17 : okCell v17 = true) (f17 : FnOk X [47] v17) (k18 : okCell v18 = true) (f18 : FnOk X [37] v18) : OpsOk X (opL v1 v2 v3 v4 v5 v6 v7 v8 v9 v10 v11 v12 v13 v14 v15 v16 v17 v18) := by
  refine ⟨fun op h => ?_, fun op h => ?_⟩
  · have hm := rank_cases h
    simp only [opNames, List.mem_cons, List.not_mem_nil, or_false] at hm
    rcases hm with rfl | rfl | rfl | rfl | rfl | rfl | rfl | rfl | rfl | rfl | rfl | rfl | rfl | rfl | rfl | rfl | rfl | rfl
    · exact ⟨v1, by kernel_rfl, k1, fun h => absurd (by decide) h⟩
    · exact ⟨v2, by kernel_rfl, k2, fun _ h => absurd (by decide) h⟩
    · exact ⟨v3, by kernel_rfl, k3, fun _ _ => f3⟩
    · exact ⟨v4, by kernel_rfl, k4, fun _ _ => f4⟩
    · exact ⟨v5, by kernel_rfl, k5, fun _ _ => f5⟩
    · exact ⟨v6, by kernel_rfl, k6, fun _ _ => f6⟩
    · exact ⟨v7, by kernel_rfl, k7, fun _ _ => f7⟩
    · exact ⟨v8, by kernel_rfl, k8, fun _ _ => f8⟩
    · exact ⟨v9, by kernel_rfl, k9, fun _ _ => f9⟩
    · exact ⟨v10, by kernel_rfl, k10, fun _ _ => f10⟩
    · exact ⟨v11, by kernel_rfl, k11, fun _ _ => f11⟩
    · exact ⟨v12, by kernel_rfl, k12, fun _ _ => f12⟩
    · exact ⟨v13, by kernel_rfl, k13, fun _ _ => f13⟩
    · exact ⟨v14, by kernel_rfl, k14, fun _ _ => f14⟩
    · exact ⟨v15, by kernel_rfl, k15, fun _ _ => f15⟩
    · exact ⟨v16, by kernel_rfl, k16, fun _ _ => f16⟩
    · exact ⟨v17, by kernel_rfl, k17, fun _ _ => f17⟩
    · exact ⟨v18, by kernel_rfl, k18, fun _ _ => f18⟩
  · refine lookup_none fun p hp e => ?_
    subst e
    exact rank_names _ (List.mem_map_of_mem (f := Prod.fst) hp) h
theorem ins_opL (v1 v2 v3 v4 v5 v6 v7 v8 v9 v10 v11 v12 v13 v14 v15 v16 v17 v18 : Value) : ins (κ := Str) (ins (κ := Str) (ins (κ := Str) (ins (κ := Str) (ins (κ := Str) (ins (κ := Str) (ins (κ := Str) (ins (κ := Str) (ins (κ := Str) (ins (κ := Str) (ins (κ := Str) (ins (κ := Str) (ins (κ := Str) (ins (κ := Str) (ins (κ := Str) (ins (κ := Str) (ins (κ := Str) (ins (κ := Str) (([] : List (Str × Value))) [124, 124] (.agg #[.int .i64 1, v1])) [38, 38] (.agg #[.int .i64 2, v2])) [124] (.agg #[.int .i64 3, v3])) [94] (.agg #[.int .i64 4, v4])) [38] (.agg #[.int .i64 5, v5])) [61, 61] (.agg #[.int .i64 6, v6])) [33, 61] (.agg #[.int .i64 6, v7])) [60] (.agg #[.int .i64 7, v8])) [60, 61] (.agg #[.int .i64 7, v9])) [62] (.agg #[.int .i64 7, v10])) [62, 61] (.agg #[.int .i64 7, v11])) [60, 60] (.agg #[.int .i64 8, v12])) [62, 62] (.agg #[.int .i64 8, v13])) [43] (.agg #[.int .i64 9, v14])) [45] (.agg #[.int .i64 9, v15])) [42] (.agg #[.int .i64 10, v16])) [47] (.agg #[.int .i64 10, v17])) [37] (.agg #[.int .i64 10, v18]) = opL v1 v2 v3 v4 v5 v6 v7 v8 v9 v10 v11 v12 v13 v14 v15 v16 v17 v18 := by kernel_rfl
section
variable {X : Ce} {σ : AS} {R : List Ck} {k : Value → AS → Prop} {fn : Nat}
theorem plain_c (h : Hs σ X R) (hk : ∀ q X' σ', Ce.le X X' → X' q 0 = some (fv0 fn) → Hs σ' X' R → k (.func (.func 75) #[] #[pvw q]) σ') : kCall Tryz.prog 34 [fv0 fn] σ k := by
  refine f34 ?_
  obtain ⟨X', h1, h2, h3⟩ := (h.new (cs := [fv0 fn])).freeze
  (try simp (maxSteps := 1000000) (dsimp := false) (disch := (first | omega | (simp only [okR]; done) | (simp only [sizeR] <;> omega) | fail)) only [↓preR, postR, ↓w_stop, Nat.reduceEqDiff, Nat.reduceAdd, Nat.reduceSub, Nat.reduceMul, Int.reduceNeg, Nat.reduceLT, Int.reduceToNat, Nat.reduceLeDiff, Nat.sub_zero, F34])
  exact hk _ X' _ h1 (h2 0 _ rfl) h3
theorem over_c {least : Int} (h : Hs σ X R) (hk : ∀ q q2 X' σ', Ce.le X X' → X' q 0 = some (fv0 fn) → X' q2 0 = some (.int .i64 least) → Hs σ' X' R → k (.func (.func 76) #[] #[pvw q2, pvw q]) σ') : kCall Tryz.prog 50 [fv0 fn, .int .i64 least] σ k := by
  refine f50 ?_
  obtain ⟨X1, h1, h2, h3⟩ := (h.new (cs := [fv0 fn])).freeze
  obtain ⟨X2, h4, h5, h6⟩ := (h3.new (cs := [.int .i64 least])).freeze
  (try simp (maxSteps := 1000000) (dsimp := false) (disch := (first | omega | (simp only [okR]; done) | (simp only [sizeR] <;> omega) | fail)) only [↓preR, postR, ↓w_stop, Nat.reduceEqDiff, Nat.reduceAdd, Nat.reduceSub, Nat.reduceMul, Int.reduceNeg, Nat.reduceLT, Int.reduceToNat, Nat.reduceLeDiff, Nat.sub_zero, F50])
  exact hk _ _ X2 _ (Ce.le_trans h1 h4) (h4 _ _ _ (h2 0 _ rfl)) (h5 0 _ rfl) h6
theorem ops_c (h : Hs σ X R) (hk : ∀ m ops X' σ', Ce.le X X' → OpsOk X' ops → Hs σ' X' (Mp (κ := Str) m none ops :: R) → k (.map (some m)) σ') : kCall Tryz.prog 19 [] σ k := by
  refine f19 ?_
  have h0 := h.newMap (κ := Str)
  (try simp (maxSteps := 1000000) (dsimp := false) (disch := (first | omega | (simp only [okR]; done) | (simp only [sizeR] <;> omega) | fail)) only [↓preR, postR, ↓w_stop, Nat.reduceEqDiff, Nat.reduceAdd, Nat.reduceSub, Nat.reduceMul, Int.reduceNeg, Nat.reduceLT, Int.reduceToNat, Nat.reduceLeDiff, Nat.sub_zero, F19])
  refine mup_by (κ := Str) (k := [124, 124]) h0 Tryz.underlying45 Tryz.underlying9 fun s1 h1 => ?_
  (try simp (maxSteps := 1000000) (dsimp := false) (disch := (first | omega | (simp only [okR]; done) | (simp only [sizeR] <;> omega) | fail)) only [↓preR, postR, ↓w_stop, Nat.reduceEqDiff, Nat.reduceAdd, Nat.reduceSub, Nat.reduceMul, Int.reduceNeg, Nat.reduceLT, Int.reduceToNat, Nat.reduceLeDiff, Nat.sub_zero])
  refine mup_by (κ := Str) (k := [38, 38]) h1 Tryz.underlying45 Tryz.underlying9 fun s2 h2 => ?_
  (try simp (maxSteps := 1000000) (dsimp := false) (disch := (first | omega | (simp only [okR]; done) | (simp only [sizeR] <;> omega) | fail)) only [↓preR, postR, ↓w_stop, Nat.reduceEqDiff, Nat.reduceAdd, Nat.reduceSub, Nat.reduceMul, Int.reduceNeg, Nat.reduceLT, Int.reduceToNat, Nat.reduceLeDiff, Nat.sub_zero])
  refine plain_c h2 fun q3 X3 t3 l3 c3 g3 => ?_
  (try simp (maxSteps := 1000000) (dsimp := false) (disch := (first | omega | (simp only [okR]; done) | (simp only [sizeR] <;> omega) | fail)) only [↓preR, postR, ↓w_stop, Nat.reduceEqDiff, Nat.reduceAdd, Nat.reduceSub, Nat.reduceMul, Int.reduceNeg, Nat.reduceLT, Int.reduceToNat, Nat.reduceLeDiff, Nat.sub_zero])
  refine mup_by (κ := Str) (k := [124]) g3 Tryz.underlying45 Tryz.underlying9 fun s3 h3 => ?_
  (try simp (maxSteps := 1000000) (dsimp := false) (disch := (first | omega | (simp only [okR]; done) | (simp only [sizeR] <;> omega) | fail)) only [↓preR, postR, ↓w_stop, Nat.reduceEqDiff, Nat.reduceAdd, Nat.reduceSub, Nat.reduceMul, Int.reduceNeg, Nat.reduceLT, Int.reduceToNat, Nat.reduceLeDiff, Nat.sub_zero])
  refine plain_c h3 fun q4 X4 t4 l4 c4 g4 => ?_
  (try simp (maxSteps := 1000000) (dsimp := false) (disch := (first | omega | (simp only [okR]; done) | (simp only [sizeR] <;> omega) | fail)) only [↓preR, postR, ↓w_stop, Nat.reduceEqDiff, Nat.reduceAdd, Nat.reduceSub, Nat.reduceMul, Int.reduceNeg, Nat.reduceLT, Int.reduceToNat, Nat.reduceLeDiff, Nat.sub_zero])
  refine mup_by (κ := Str) (k := [94]) g4 Tryz.underlying45 Tryz.underlying9 fun s4 h4 => ?_
  (try simp (maxSteps := 1000000) (dsimp := false) (disch := (first | omega | (simp only [okR]; done) | (simp only [sizeR] <;> omega) | fail)) only [↓preR, postR, ↓w_stop, Nat.reduceEqDiff, Nat.reduceAdd, Nat.reduceSub, Nat.reduceMul, Int.reduceNeg, Nat.reduceLT, Int.reduceToNat, Nat.reduceLeDiff, Nat.sub_zero])
  refine plain_c h4 fun q5 X5 t5 l5 c5 g5 => ?_
  (try simp (maxSteps := 1000000) (dsimp := false) (disch := (first | omega | (simp only [okR]; done) | (simp only [sizeR] <;> omega) | fail)) only [↓preR, postR, ↓w_stop, Nat.reduceEqDiff, Nat.reduceAdd, Nat.reduceSub, Nat.reduceMul, Int.reduceNeg, Nat.reduceLT, Int.reduceToNat, Nat.reduceLeDiff, Nat.sub_zero])
  refine mup_by (κ := Str) (k := [38]) g5 Tryz.underlying45 Tryz.underlying9 fun s5 h5 => ?_
  (try simp (maxSteps := 1000000) (dsimp := false) (disch := (first | omega | (simp only [okR]; done) | (simp only [sizeR] <;> omega) | fail)) only [↓preR, postR, ↓w_stop, Nat.reduceEqDiff, Nat.reduceAdd, Nat.reduceSub, Nat.reduceMul, Int.reduceNeg, Nat.reduceLT, Int.reduceToNat, Nat.reduceLeDiff, Nat.sub_zero])
  refine plain_c h5 fun q6 X6 t6 l6 c6 g6 => ?_
  (try simp (maxSteps := 1000000) (dsimp := false) (disch := (first | omega | (simp only [okR]; done) | (simp only [sizeR] <;> omega) | fail)) only [↓preR, postR, ↓w_stop, Nat.reduceEqDiff, Nat.reduceAdd, Nat.reduceSub, Nat.reduceMul, Int.reduceNeg, Nat.reduceLT, Int.reduceToNat, Nat.reduceLeDiff, Nat.sub_zero])
  refine mup_by (κ := Str) (k := [61, 61]) g6 Tryz.underlying45 Tryz.underlying9 fun s6 h6 => ?_
  (try simp (maxSteps := 1000000) (dsimp := false) (disch := (first | omega | (simp only [okR]; done) | (simp only [sizeR] <;> omega) | fail)) only [↓preR, postR, ↓w_stop, Nat.reduceEqDiff, Nat.reduceAdd, Nat.reduceSub, Nat.reduceMul, Int.reduceNeg, Nat.reduceLT, Int.reduceToNat, Nat.reduceLeDiff, Nat.sub_zero])
  refine plain_c h6 fun q7 X7 t7 l7 c7 g7 => ?_
  (try simp (maxSteps := 1000000) (dsimp := false) (disch := (first | omega | (simp only [okR]; done) | (simp only [sizeR] <;> omega) | fail)) only [↓preR, postR, ↓w_stop, Nat.reduceEqDiff, Nat.reduceAdd, Nat.reduceSub, Nat.reduceMul, Int.reduceNeg, Nat.reduceLT, Int.reduceToNat, Nat.reduceLeDiff, Nat.sub_zero])
  refine mup_by (κ := Str) (k := [33, 61]) g7 Tryz.underlying45 Tryz.underlying9 fun s7 h7 => ?_
  (try simp (maxSteps := 1000000) (dsimp := false) (disch := (first | omega | (simp only [okR]; done) | (simp only [sizeR] <;> omega) | fail)) only [↓preR, postR, ↓w_stop, Nat.reduceEqDiff, Nat.reduceAdd, Nat.reduceSub, Nat.reduceMul, Int.reduceNeg, Nat.reduceLT, Int.reduceToNat, Nat.reduceLeDiff, Nat.sub_zero])
  refine plain_c h7 fun q8 X8 t8 l8 c8 g8 => ?_
  (try simp (maxSteps := 1000000) (dsimp := false) (disch := (first | omega | (simp only [okR]; done) | (simp only [sizeR] <;> omega) | fail)) only [↓preR, postR, ↓w_stop, Nat.reduceEqDiff, Nat.reduceAdd, Nat.reduceSub, Nat.reduceMul, Int.reduceNeg, Nat.reduceLT, Int.reduceToNat, Nat.reduceLeDiff, Nat.sub_zero])
  refine mup_by (κ := Str) (k := [60]) g8 Tryz.underlying45 Tryz.underlying9 fun s8 h8 => ?_
  (try simp (maxSteps := 1000000) (dsimp := false) (disch := (first | omega | (simp only [okR]; done) | (simp only [sizeR] <;> omega) | fail)) only [↓preR, postR, ↓w_stop, Nat.reduceEqDiff, Nat.reduceAdd, Nat.reduceSub, Nat.reduceMul, Int.reduceNeg, Nat.reduceLT, Int.reduceToNat, Nat.reduceLeDiff, Nat.sub_zero])
  refine plain_c h8 fun q9 X9 t9 l9 c9 g9 => ?_
  (try simp (maxSteps := 1000000) (dsimp := false) (disch := (first | omega | (simp only [okR]; done) | (simp only [sizeR] <;> omega) | fail)) only [↓preR, postR, ↓w_stop, Nat.reduceEqDiff, Nat.reduceAdd, Nat.reduceSub, Nat.reduceMul, Int.reduceNeg, Nat.reduceLT, Int.reduceToNat, Nat.reduceLeDiff, Nat.sub_zero])
  refine mup_by (κ := Str) (k := [60, 61]) g9 Tryz.underlying45 Tryz.underlying9 fun s9 h9 => ?_
  (try simp (maxSteps := 1000000) (dsimp := false) (disch := (first | omega | (simp only [okR]; done) | (simp only [sizeR] <;> omega) | fail)) only [↓preR, postR, ↓w_stop, Nat.reduceEqDiff, Nat.reduceAdd, Nat.reduceSub, Nat.reduceMul, Int.reduceNeg, Nat.reduceLT, Int.reduceToNat, Nat.reduceLeDiff, Nat.sub_zero])
  refine plain_c h9 fun q10 X10 t10 l10 c10 g10 => ?_
  (try simp (maxSteps := 1000000) (dsimp := false) (disch := (first | omega | (simp only [okR]; done) | (simp only [sizeR] <;> omega) | fail)) only [↓preR, postR, ↓w_stop, Nat.reduceEqDiff, Nat.reduceAdd, Nat.reduceSub, Nat.reduceMul, Int.reduceNeg, Nat.reduceLT, Int.reduceToNat, Nat.reduceLeDiff, Nat.sub_zero])
  refine mup_by (κ := Str) (k := [62]) g10 Tryz.underlying45 Tryz.underlying9 fun s10 h10 => ?_
  (try simp (maxSteps := 1000000) (dsimp := false) (disch := (first | omega | (simp only [okR]; done) | (simp only [sizeR] <;> omega) | fail)) only [↓preR, postR, ↓w_stop, Nat.reduceEqDiff, Nat.reduceAdd, Nat.reduceSub, Nat.reduceMul, Int.reduceNeg, Nat.reduceLT, Int.reduceToNat, Nat.reduceLeDiff, Nat.sub_zero])
  refine plain_c h10 fun q11 X11 t11 l11 c11 g11 => ?_
  (try simp (maxSteps := 1000000) (dsimp := false) (disch := (first | omega | (simp only [okR]; done) | (simp only [sizeR] <;> omega) | fail)) only [↓preR, postR, ↓w_stop, Nat.reduceEqDiff, Nat.reduceAdd, Nat.reduceSub, Nat.reduceMul, Int.reduceNeg, Nat.reduceLT, Int.reduceToNat, Nat.reduceLeDiff, Nat.sub_zero])
  refine mup_by (κ := Str) (k := [62, 61]) g11 Tryz.underlying45 Tryz.underlying9 fun s11 h11 => ?_
  (try simp (maxSteps := 1000000) (dsimp := false) (disch := (first | omega | (simp only [okR]; done) | (simp only [sizeR] <;> omega) | fail)) only [↓preR, postR, ↓w_stop, Nat.reduceEqDiff, Nat.reduceAdd, Nat.reduceSub, Nat.reduceMul, Int.reduceNeg, Nat.reduceLT, Int.reduceToNat, Nat.reduceLeDiff, Nat.sub_zero])
  refine plain_c h11 fun q12 X12 t12 l12 c12 g12 => ?_
  (try simp (maxSteps := 1000000) (dsimp := false) (disch := (first | omega | (simp only [okR]; done) | (simp only [sizeR] <;> omega) | fail)) only [↓preR, postR, ↓w_stop, Nat.reduceEqDiff, Nat.reduceAdd, Nat.reduceSub, Nat.reduceMul, Int.reduceNeg, Nat.reduceLT, Int.reduceToNat, Nat.reduceLeDiff, Nat.sub_zero])
  refine mup_by (κ := Str) (k := [60, 60]) g12 Tryz.underlying45 Tryz.underlying9 fun s12 h12 => ?_
  (try simp (maxSteps := 1000000) (dsimp := false) (disch := (first | omega | (simp only [okR]; done) | (simp only [sizeR] <;> omega) | fail)) only [↓preR, postR, ↓w_stop, Nat.reduceEqDiff, Nat.reduceAdd, Nat.reduceSub, Nat.reduceMul, Int.reduceNeg, Nat.reduceLT, Int.reduceToNat, Nat.reduceLeDiff, Nat.sub_zero])
  refine plain_c h12 fun q13 X13 t13 l13 c13 g13 => ?_
  (try simp (maxSteps := 1000000) (dsimp := false) (disch := (first | omega | (simp only [okR]; done) | (simp only [sizeR] <;> omega) | fail)) only [↓preR, postR, ↓w_stop, Nat.reduceEqDiff, Nat.reduceAdd, Nat.reduceSub, Nat.reduceMul, Int.reduceNeg, Nat.reduceLT, Int.reduceToNat, Nat.reduceLeDiff, Nat.sub_zero])
  refine mup_by (κ := Str) (k := [62, 62]) g13 Tryz.underlying45 Tryz.underlying9 fun s13 h13 => ?_
  (try simp (maxSteps := 1000000) (dsimp := false) (disch := (first | omega | (simp only [okR]; done) | (simp only [sizeR] <;> omega) | fail)) only [↓preR, postR, ↓w_stop, Nat.reduceEqDiff, Nat.reduceAdd, Nat.reduceSub, Nat.reduceMul, Int.reduceNeg, Nat.reduceLT, Int.reduceToNat, Nat.reduceLeDiff, Nat.sub_zero])
  refine plain_c h13 fun q14 X14 t14 l14 c14 g14 => ?_
  (try simp (maxSteps := 1000000) (dsimp := false) (disch := (first | omega | (simp only [okR]; done) | (simp only [sizeR] <;> omega) | fail)) only [↓preR, postR, ↓w_stop, Nat.reduceEqDiff, Nat.reduceAdd, Nat.reduceSub, Nat.reduceMul, Int.reduceNeg, Nat.reduceLT, Int.reduceToNat, Nat.reduceLeDiff, Nat.sub_zero])
  refine mup_by (κ := Str) (k := [43]) g14 Tryz.underlying45 Tryz.underlying9 fun s14 h14 => ?_
  (try simp (maxSteps := 1000000) (dsimp := false) (disch := (first | omega | (simp only [okR]; done) | (simp only [sizeR] <;> omega) | fail)) only [↓preR, postR, ↓w_stop, Nat.reduceEqDiff, Nat.reduceAdd, Nat.reduceSub, Nat.reduceMul, Int.reduceNeg, Nat.reduceLT, Int.reduceToNat, Nat.reduceLeDiff, Nat.sub_zero])
  refine plain_c h14 fun q15 X15 t15 l15 c15 g15 => ?_
  (try simp (maxSteps := 1000000) (dsimp := false) (disch := (first | omega | (simp only [okR]; done) | (simp only [sizeR] <;> omega) | fail)) only [↓preR, postR, ↓w_stop, Nat.reduceEqDiff, Nat.reduceAdd, Nat.reduceSub, Nat.reduceMul, Int.reduceNeg, Nat.reduceLT, Int.reduceToNat, Nat.reduceLeDiff, Nat.sub_zero])
  refine mup_by (κ := Str) (k := [45]) g15 Tryz.underlying45 Tryz.underlying9 fun s15 h15 => ?_
  (try simp (maxSteps := 1000000) (dsimp := false) (disch := (first | omega | (simp only [okR]; done) | (simp only [sizeR] <;> omega) | fail)) only [↓preR, postR, ↓w_stop, Nat.reduceEqDiff, Nat.reduceAdd, Nat.reduceSub, Nat.reduceMul, Int.reduceNeg, Nat.reduceLT, Int.reduceToNat, Nat.reduceLeDiff, Nat.sub_zero])
  refine plain_c h15 fun q16 X16 t16 l16 c16 g16 => ?_
  (try simp (maxSteps := 1000000) (dsimp := false) (disch := (first | omega | (simp only [okR]; done) | (simp only [sizeR] <;> omega) | fail)) only [↓preR, postR, ↓w_stop, Nat.reduceEqDiff, Nat.reduceAdd, Nat.reduceSub, Nat.reduceMul, Int.reduceNeg, Nat.reduceLT, Int.reduceToNat, Nat.reduceLeDiff, Nat.sub_zero])
  refine mup_by (κ := Str) (k := [42]) g16 Tryz.underlying45 Tryz.underlying9 fun s16 h16 => ?_
  (try simp (maxSteps := 1000000) (dsimp := false) (disch := (first | omega | (simp only [okR]; done) | (simp only [sizeR] <;> omega) | fail)) only [↓preR, postR, ↓w_stop, Nat.reduceEqDiff, Nat.reduceAdd, Nat.reduceSub, Nat.reduceMul, Int.reduceNeg, Nat.reduceLT, Int.reduceToNat, Nat.reduceLeDiff, Nat.sub_zero])
  refine over_c h16 fun q17 p17 X17 t17 l17 c17 d17 g17 => ?_
  (try simp (maxSteps := 1000000) (dsimp := false) (disch := (first | omega | (simp only [okR]; done) | (simp only [sizeR] <;> omega) | fail)) only [↓preR, postR, ↓w_stop, Nat.reduceEqDiff, Nat.reduceAdd, Nat.reduceSub, Nat.reduceMul, Int.reduceNeg, Nat.reduceLT, Int.reduceToNat, Nat.reduceLeDiff, Nat.sub_zero])
  refine mup_by (κ := Str) (k := [47]) g17 Tryz.underlying45 Tryz.underlying9 fun s17 h17 => ?_
  (try simp (maxSteps := 1000000) (dsimp := false) (disch := (first | omega | (simp only [okR]; done) | (simp only [sizeR] <;> omega) | fail)) only [↓preR, postR, ↓w_stop, Nat.reduceEqDiff, Nat.reduceAdd, Nat.reduceSub, Nat.reduceMul, Int.reduceNeg, Nat.reduceLT, Int.reduceToNat, Nat.reduceLeDiff, Nat.sub_zero])
  refine over_c h17 fun q18 p18 X18 t18 l18 c18 d18 g18 => ?_
  (try simp (maxSteps := 1000000) (dsimp := false) (disch := (first | omega | (simp only [okR]; done) | (simp only [sizeR] <;> omega) | fail)) only [↓preR, postR, ↓w_stop, Nat.reduceEqDiff, Nat.reduceAdd, Nat.reduceSub, Nat.reduceMul, Int.reduceNeg, Nat.reduceLT, Int.reduceToNat, Nat.reduceLeDiff, Nat.sub_zero])
  refine mup_by (κ := Str) (k := [37]) g18 Tryz.underlying45 Tryz.underlying9 fun s18 h18 => ?_
  (try simp (maxSteps := 1000000) (dsimp := false) (disch := (first | omega | (simp only [okR]; done) | (simp only [sizeR] <;> omega) | fail)) only [↓preR, postR, ↓w_stop, Nat.reduceEqDiff, Nat.reduceAdd, Nat.reduceSub, Nat.reduceMul, Int.reduceNeg, Nat.reduceLT, Int.reduceToNat, Nat.reduceLeDiff, Nat.sub_zero])
  rw [ins_opL] at h18
  refine hk _ _ X18 _ (Ce.le_trans (Ce.le_trans (Ce.le_trans (Ce.le_trans (Ce.le_trans (Ce.le_trans (Ce.le_trans (Ce.le_trans (Ce.le_trans (Ce.le_trans (Ce.le_trans (Ce.le_trans (Ce.le_trans (Ce.le_trans (Ce.le_trans (l3) l4) l5) l6) l7) l8) l9) l10) l11) l12) l13) l14) l15) l16) l17) l18) (opL_ok (v1 := .nilFunc) (v2 := .nilFunc) rfl rfl
    rfl (plain_ok (l18 _ _ _ (l17 _ _ _ (l16 _ _ _ (l15 _ _ _ (l14 _ _ _ (l13 _ _ _ (l12 _ _ _ (l11 _ _ _ (l10 _ _ _ (l9 _ _ _ (l8 _ _ _ (l7 _ _ _ (l6 _ _ _ (l5 _ _ _ (l4 _ _ _ (c3)))))))))))))))) (by kernel_rfl) (fun _ _ => rfl) two_or)
    rfl (plain_ok (l18 _ _ _ (l17 _ _ _ (l16 _ _ _ (l15 _ _ _ (l14 _ _ _ (l13 _ _ _ (l12 _ _ _ (l11 _ _ _ (l10 _ _ _ (l9 _ _ _ (l8 _ _ _ (l7 _ _ _ (l6 _ _ _ (l5 _ _ _ (c4))))))))))))))) (by kernel_rfl) (fun _ _ => rfl) two_xor)
    rfl (plain_ok (l18 _ _ _ (l17 _ _ _ (l16 _ _ _ (l15 _ _ _ (l14 _ _ _ (l13 _ _ _ (l12 _ _ _ (l11 _ _ _ (l10 _ _ _ (l9 _ _ _ (l8 _ _ _ (l7 _ _ _ (l6 _ _ _ (c5)))))))))))))) (by kernel_rfl) (fun _ _ => rfl) two_and)
    rfl (plain_ok (l18 _ _ _ (l17 _ _ _ (l16 _ _ _ (l15 _ _ _ (l14 _ _ _ (l13 _ _ _ (l12 _ _ _ (l11 _ _ _ (l10 _ _ _ (l9 _ _ _ (l8 _ _ _ (l7 _ _ _ (c6))))))))))))) (by kernel_rfl) (fun _ _ => rfl) two_eq)
    rfl (plain_ok (l18 _ _ _ (l17 _ _ _ (l16 _ _ _ (l15 _ _ _ (l14 _ _ _ (l13 _ _ _ (l12 _ _ _ (l11 _ _ _ (l10 _ _ _ (l9 _ _ _ (l8 _ _ _ (c7)))))))))))) (by kernel_rfl) (fun _ _ => rfl) two_ne)
    rfl (plain_ok (l18 _ _ _ (l17 _ _ _ (l16 _ _ _ (l15 _ _ _ (l14 _ _ _ (l13 _ _ _ (l12 _ _ _ (l11 _ _ _ (l10 _ _ _ (l9 _ _ _ (c8))))))))))) (by kernel_rfl) (fun _ _ => rfl) two_lt)
    rfl (plain_ok (l18 _ _ _ (l17 _ _ _ (l16 _ _ _ (l15 _ _ _ (l14 _ _ _ (l13 _ _ _ (l12 _ _ _ (l11 _ _ _ (l10 _ _ _ (c9)))))))))) (by kernel_rfl) (fun _ _ => rfl) two_le)
    rfl (plain_ok (l18 _ _ _ (l17 _ _ _ (l16 _ _ _ (l15 _ _ _ (l14 _ _ _ (l13 _ _ _ (l12 _ _ _ (l11 _ _ _ (c10))))))))) (by kernel_rfl) (fun _ _ => rfl) two_gt)
    rfl (plain_ok (l18 _ _ _ (l17 _ _ _ (l16 _ _ _ (l15 _ _ _ (l14 _ _ _ (l13 _ _ _ (l12 _ _ _ (c11)))))))) (by kernel_rfl) (fun _ _ => rfl) two_ge)
    rfl (plain_ok (l18 _ _ _ (l17 _ _ _ (l16 _ _ _ (l15 _ _ _ (l14 _ _ _ (l13 _ _ _ (c12))))))) (by kernel_rfl) (fun _ _ => rfl) two_shl)
    rfl (plain_ok (l18 _ _ _ (l17 _ _ _ (l16 _ _ _ (l15 _ _ _ (l14 _ _ _ (c13)))))) (by kernel_rfl) (fun _ _ => rfl) two_shr)
    rfl (plain_ok (l18 _ _ _ (l17 _ _ _ (l16 _ _ _ (l15 _ _ _ (c14))))) (by kernel_rfl) (fun _ _ => rfl) two_add)
    rfl (plain_ok (l18 _ _ _ (l17 _ _ _ (l16 _ _ _ (c15)))) (by kernel_rfl) (fun _ _ => rfl) two_sub)
    rfl (plain_ok (l18 _ _ _ (l17 _ _ _ (c16))) (by kernel_rfl) (fun _ _ => rfl) two_mul)
    rfl (quo_ok (l18 _ _ _ (c17)) (l18 _ _ _ (d17)))
    rfl (rem_ok (c18) (d18))) ?_
  exact h18
end
end Go.Proofs.YtkbpbagjbjkpmaaGreatDoor
