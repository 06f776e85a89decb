/- Variables: calls as data; which are few. Conditions: as each theorem says. -/
import Derived.Test.YtpnefcapiiemdaaGreatDoorVaG
namespace Go.Proofs.YtpnefcapiiemdaaGreatDoor
open E Go.Lib
set_option linter.unusedVariables false
set_option linter.unusedSimpArgs false
set_option maxHeartbeats 1000000
set_option maxRecDepth 20000
def TextsP (l : List Str) : Prop := l.length ≤ 20 ∧ ∀ s, s ∈ l → s.length ≤ 200
def FewP (l : List OpV) : Prop := l.length ≤ 60 ∧ ∀ o, o ∈ l → o.2.1.length ≤ 200 ∧ o.2.2.1.length ≤ 200 ∧ TextsP o.2.2.2.2
section
variable {σ σ' : AS} {X : Ce} {R : List Ck} {k : Value → AS → Prop} {v m : Nat} {u : Value} {zero n val s : Str} {ms : List Str} {i q most : Int} {S : VM} {w : Bool} {x' : VV} {ops : List OpV}
theorem ops_at (h : RepL X u ops) : ∃ a b o cap, u = .slice a ops.length cap ∧ ops.length ≤ cap ∧ cap ≤ maxLen ∧ ∀ i (hi : i < ops.length), a = some ⟨b, o, none⟩ ∧ ∃ t, RepL X t ops[i].2.2.2.2 ∧ inI64 ops[i].1 ∧ inI64 ops[i].2.2.2.1 ∧ ops[i].2.1.length ≤ maxLen ∧ ops[i].2.2.1.length ≤ maxLen ∧
    X b (o + i * 5) = some (.int .i64 ops[i].1) ∧ X b (o + i * 5 + 1) = some (.string (bs ops[i].2.1)) ∧ X b (o + i * 5 + 2) = some (.string (bs ops[i].2.2.1)) ∧ X b (o + i * 5 + 3) = some (.int .i64 ops[i].2.2.2.1) ∧ X b (o + i * 5 + 4) = some t := by
  obtain ⟨a, b, o, cap, h1, h2, h3, h4⟩ := h.get
  refine ⟨a, b, o, cap, h1, h2, h3, fun i hi => ?_⟩
  obtain ⟨h5, cs, h6, _, h7⟩ := h4 i hi
  obtain ⟨c1, r1, e1, ⟨f1, b1⟩, c2, r2, e2, ⟨f2, b2⟩, c3, r3, e3, ⟨f3, b3⟩, c4, r4, e4, ⟨f4, b4⟩, t, f5, b5⟩ := h6
  have ecs : cs = [.int .i64 ops[i].1, .string (bs ops[i].2.1), .string (bs ops[i].2.2.1), .int .i64 ops[i].2.2.2.1, t] := by rw [e1, e2, e3, e4, f1, f2, f3, f4, f5]; rfl
  rw [ecs] at h7
  exact ⟨h5, t, b5, b1, b4, b2, b3, h7 0 _ rfl, h7 1 _ rfl, h7 2 _ rfl, h7 3 _ rfl, h7 4 _ rfl⟩
theorem texts_c {l : List Str} (h : Hs σ X R) (hr : RepL X u l) (hk1 : TextsP l → k (.bool true) σ) (hk0 : k (.bool false) σ) : kCall Tryz.prog 11 [u] σ k := by
  obtain ⟨a, b, o, cap, rfl, hc, hm, hat⟩ := strs_at hr
  refine f11 ?_
  by_cases hlen : l.length ≤ 20
  rotate_left
  · (try simp (maxSteps := 1000000) (dsimp := false) (disch := (first | omega | (simp only [okR]; done) | (simp only [sizeR] <;> omega) | fail)) only [↓preR, postR, ↓w_join, Nat.reduceEqDiff, Nat.reduceAdd, Nat.reduceSub, Nat.reduceMul, Int.reduceNeg, Nat.reduceLT, Int.reduceToNat, Nat.reduceLeDiff, Nat.sub_zero, F11])
    exact hk0
  (try simp (maxSteps := 1000000) (dsimp := false) (disch := (first | omega | (simp only [okR]; done) | (simp only [sizeR] <;> omega) | fail)) only [↓preR, postR, ↓w_stop, Nat.reduceEqDiff, Nat.reduceAdd, Nat.reduceSub, Nat.reduceMul, Int.reduceNeg, Nat.reduceLT, Int.reduceToNat, Nat.reduceLeDiff, Nat.sub_zero, F11])
  refine join_now ?_
  (try simp (maxSteps := 1000000) (dsimp := false) (disch := (first | omega | (simp only [okR]; done) | (simp only [sizeR] <;> omega) | fail)) only [↓preR, postR, ↓w_stop, Nat.reduceEqDiff, Nat.reduceAdd, Nat.reduceSub, Nat.reduceMul, Int.reduceNeg, Nat.reduceLT, Int.reduceToNat, Nat.reduceLeDiff, Nat.sub_zero])
  refine join_now ?_
  refine loop_inv (fun nn xs s1 => ∃ j : Nat, xs = [.int .i64 j] ∧ σ = s1 ∧ j ≤ l.length ∧ (∀ t, t ∈ l.take j → t.length ≤ 200) ∧ nn = l.length - j) _ ⟨0, rfl, rfl, Nat.zero_le _, by simp, rfl⟩ ?_
  rintro _ _ s1 again ⟨j, rfl, rfl, hj, hpre, rfl⟩ hag
  by_cases hlt : j < l.length
  · obtain ⟨rfl, c0, _⟩ := hat j hlt
    have g := h.ldx c0
    by_cases hp : l[j].length ≤ 200
    · (simp (maxSteps := 1000000) (dsimp := false) (disch := (first | omega | (simp only [okR]; done) | (simp only [sizeR] <;> omega) | fail)) only [↓preR, postR, ↓w_join, Nat.reduceEqDiff, Nat.reduceAdd, Nat.reduceSub, Nat.reduceMul, Int.reduceNeg, Nat.reduceLT, Int.reduceToNat, Nat.reduceLeDiff, Nat.sub_zero, g])
      refine hag _ _ _ ⟨j + 1, by simp, rfl, hlt, ?_, rfl⟩ (by omega)
      rw [List.take_succ_eq_append_getElem hlt]
      intro t ht
      rcases List.mem_append.1 ht with ht | ht
      · exact hpre t ht
      · simp at ht; subst ht; exact hp
    · (simp (maxSteps := 1000000) (dsimp := false) (disch := (first | omega | (simp only [okR]; done) | (simp only [sizeR] <;> omega) | fail)) only [↓preR, postR, ↓w_join, Nat.reduceEqDiff, Nat.reduceAdd, Nat.reduceSub, Nat.reduceMul, Int.reduceNeg, Nat.reduceLT, Int.reduceToNat, Nat.reduceLeDiff, Nat.sub_zero, g])
      exact hk0
  · (simp (maxSteps := 1000000) (dsimp := false) (disch := (first | omega | (simp only [okR]; done) | (simp only [sizeR] <;> omega) | fail)) only [↓preR, postR, ↓w_join, Nat.reduceEqDiff, Nat.reduceAdd, Nat.reduceSub, Nat.reduceMul, Int.reduceNeg, Nat.reduceLT, Int.reduceToNat, Nat.reduceLeDiff, Nat.sub_zero])
    rw [List.take_of_length_le (by omega)] at hpre
    exact hk1 ⟨hlen, hpre⟩
theorem few_c (h : Hs σ X R) (hr : RepL X u ops) (hk1 : FewP ops → k (.bool true) σ) (hk0 : k (.bool false) σ) : kCall Tryz.prog 4 [u] σ k := by
  obtain ⟨a, b, o, cap, rfl, hc, hm, hat⟩ := ops_at hr
  refine f4 ?_
  by_cases hlen : ops.length ≤ 60
  rotate_left
  · (try simp (maxSteps := 1000000) (dsimp := false) (disch := (first | omega | (simp only [okR]; done) | (simp only [sizeR] <;> omega) | fail)) only [↓preR, postR, ↓w_join, Nat.reduceEqDiff, Nat.reduceAdd, Nat.reduceSub, Nat.reduceMul, Int.reduceNeg, Nat.reduceLT, Int.reduceToNat, Nat.reduceLeDiff, Nat.sub_zero, F4])
    exact hk0
  (try simp (maxSteps := 1000000) (dsimp := false) (disch := (first | omega | (simp only [okR]; done) | (simp only [sizeR] <;> omega) | fail)) only [↓preR, postR, ↓w_stop, Nat.reduceEqDiff, Nat.reduceAdd, Nat.reduceSub, Nat.reduceMul, Int.reduceNeg, Nat.reduceLT, Int.reduceToNat, Nat.reduceLeDiff, Nat.sub_zero, F4])
  refine join_now ?_
  (try simp (maxSteps := 1000000) (dsimp := false) (disch := (first | omega | (simp only [okR]; done) | (simp only [sizeR] <;> omega) | fail)) only [↓preR, postR, ↓w_stop, Nat.reduceEqDiff, Nat.reduceAdd, Nat.reduceSub, Nat.reduceMul, Int.reduceNeg, Nat.reduceLT, Int.reduceToNat, Nat.reduceLeDiff, Nat.sub_zero])
  refine join_now ?_
  refine loop_inv (fun nn xs s1 => ∃ j : Nat, xs = [.int .i64 j] ∧ σ = s1 ∧ j ≤ ops.length ∧ (∀ o, o ∈ ops.take j → o.2.1.length ≤ 200 ∧ o.2.2.1.length ≤ 200 ∧ TextsP o.2.2.2.2) ∧ nn = ops.length - j) _ ⟨0, rfl, rfl, Nat.zero_le _, by simp, rfl⟩ ?_
  rintro _ _ s1 again ⟨j, rfl, rfl, hj, hpre, rfl⟩ hag
  by_cases hlt : j < ops.length
  · obtain ⟨rfl, t, ht, _, _, _, _, c0, c1, c2, c3, c4⟩ := hat j hlt
    have g1 := h.ldx c1
    have g2 := h.ldx c2
    have g4 := h.ldx c4
    by_cases hp : ops[j].2.1.length ≤ 200
    · by_cases hp2 : ops[j].2.2.1.length ≤ 200
      · (simp (maxSteps := 1000000) (dsimp := false) (disch := (first | omega | (simp only [okR]; done) | (simp only [sizeR] <;> omega) | fail)) only [↓preR, postR, ↓w_join, Nat.reduceEqDiff, Nat.reduceAdd, Nat.reduceSub, Nat.reduceMul, Int.reduceNeg, Nat.reduceLT, Int.reduceToNat, Nat.reduceLeDiff, Nat.sub_zero, g1, g2, g4])
        refine texts_c h ht (fun htp => ?_) ?_
        · (simp (maxSteps := 1000000) (dsimp := false) (disch := (first | omega | (simp only [okR]; done) | (simp only [sizeR] <;> omega) | fail)) only [↓preR, postR, ↓w_join, Nat.reduceEqDiff, Nat.reduceAdd, Nat.reduceSub, Nat.reduceMul, Int.reduceNeg, Nat.reduceLT, Int.reduceToNat, Nat.reduceLeDiff, Nat.sub_zero])
          refine hag _ _ _ ⟨j + 1, by simp, rfl, hlt, ?_, rfl⟩ (by omega)
          rw [List.take_succ_eq_append_getElem hlt]
          intro t ht
          rcases List.mem_append.1 ht with ht | ht
          · exact hpre t ht
          · simp at ht; subst ht; exact ⟨hp, hp2, htp⟩
        · (simp (maxSteps := 1000000) (dsimp := false) (disch := (first | omega | (simp only [okR]; done) | (simp only [sizeR] <;> omega) | fail)) only [↓preR, postR, ↓w_join, Nat.reduceEqDiff, Nat.reduceAdd, Nat.reduceSub, Nat.reduceMul, Int.reduceNeg, Nat.reduceLT, Int.reduceToNat, Nat.reduceLeDiff, Nat.sub_zero])
          exact hk0
      · (simp (maxSteps := 1000000) (dsimp := false) (disch := (first | omega | (simp only [okR]; done) | (simp only [sizeR] <;> omega) | fail)) only [↓preR, postR, ↓w_join, Nat.reduceEqDiff, Nat.reduceAdd, Nat.reduceSub, Nat.reduceMul, Int.reduceNeg, Nat.reduceLT, Int.reduceToNat, Nat.reduceLeDiff, Nat.sub_zero, g1, g2])
        exact hk0
    · (simp (maxSteps := 1000000) (dsimp := false) (disch := (first | omega | (simp only [okR]; done) | (simp only [sizeR] <;> omega) | fail)) only [↓preR, postR, ↓w_join, Nat.reduceEqDiff, Nat.reduceAdd, Nat.reduceSub, Nat.reduceMul, Int.reduceNeg, Nat.reduceLT, Int.reduceToNat, Nat.reduceLeDiff, Nat.sub_zero, g1])
      exact hk0
  · (simp (maxSteps := 1000000) (dsimp := false) (disch := (first | omega | (simp only [okR]; done) | (simp only [sizeR] <;> omega) | fail)) only [↓preR, postR, ↓w_join, Nat.reduceEqDiff, Nat.reduceAdd, Nat.reduceSub, Nat.reduceMul, Int.reduceNeg, Nat.reduceLT, Int.reduceToNat, Nat.reduceLeDiff, Nat.sub_zero])
    rw [List.take_of_length_le (by omega)] at hpre
    exact hk1 ⟨hlen, hpre⟩
end
end Go.Proofs.YtpnefcapiiemdaaGreatDoor
