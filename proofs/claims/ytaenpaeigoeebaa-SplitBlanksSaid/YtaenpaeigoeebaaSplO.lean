/- What split.One answers; what the statements' own helpers answer; the examples. Conditions: as each theorem says. -/
import Derived.Test.YtaenpaeigoeebaaSplF
namespace Go.Proofs.Ytaenpaeigoeebaa
open E Go.Lib
set_option linter.unusedVariables false
set_option linter.unusedSimpArgs false
set_option maxHeartbeats 1000000
set_option maxRecDepth 20000

section
variable {σ σ' : AS} {k : Value → AS → Prop}
theorem le_sans {σ0 : AS} {X : List Nat} (h : Chg [] σ0 σ) (hX : ∀ g, g ∈ X → σ0.n ≤ g) : Ce.le σ0.ld (sans σ X) := fun b o v hv => by
  unfold sans
  rw [if_neg (fun hx => by have := hX b hx; have := ld_lt hv; omega)]
  exact h.ld hv (by simp)
/-- A list of fields, cell by cell. -/
theorem flds_at {v : Value} {l : List Fd} (h : RepL (α := Fld) σ.ld v l) : ∃ a cap, v = .slice a l.length cap ∧ l.length ≤ cap ∧ (l = [] ∨ ∃ b o, a = some ⟨b, o, none⟩ ∧ ∀ i (hi : i < l.length), ∃ w, l[i].1.length ≤ maxLen ∧ RepL σ.ld w l[i].2 ∧
    ldsS σ b (o + i * 2) 2 = some [.string (bs l[i].1), w] ∧ ldc σ b (o + i * 2) = some (.string (bs l[i].1)) ∧ ldc σ b (o + i * 2 + 1) = some w) := by
  simp only [ldc, ← ld_ob]
  obtain ⟨b, o, cap, hv, h1, h2, hat⟩ := h.at
  rcases hv with rfl | ⟨rfl, a, rfl⟩
  · refine ⟨_, cap, rfl, h1, .inr ⟨b, o, rfl, fun i hi => ?_⟩⟩
    obtain ⟨cs, hcs, _, hlds, hc⟩ := hat i hi
    obtain ⟨x, _, rfl, ⟨rfl, ht⟩, w, rfl, hw⟩ := hcs
    exact ⟨w, ht, hw, hlds, hc 0 _ rfl, hc 1 _ rfl⟩
  · exact ⟨a, cap, rfl, h1, .inl rfl⟩
theorem bools_at {v : Value} {l : List Bool} (h : RepL σ.ld v l) : ∃ a cap, v = .slice a l.length cap ∧ l.length ≤ cap ∧ (l = [] ∨ ∃ b o, a = some ⟨b, o, none⟩ ∧ ∀ i (hi : i < l.length), ldc σ b (o + i) = some (.bool l[i])) := by
  simp only [ldc, ← ld_ob]
  obtain ⟨b, o, cap, hv, h1, h2, hat⟩ := h.at
  rcases hv with rfl | ⟨rfl, a, rfl⟩
  · refine ⟨_, cap, rfl, h1, .inr ⟨b, o, rfl, fun i hi => ?_⟩⟩
    obtain ⟨cs, hcs, _, hlds, hc⟩ := hat i hi
    have : cs = [.bool l[i]] := hcs
    subst this
    have := hc 0 _ rfl
    rw [show o + i * Rp.sz Bool + 0 = o + i from by simp [Rp.sz]] at this
    exact this
  · exact ⟨a, cap, rfl, h1, .inl rfl⟩
theorem RepL.okc {α : Type} [Rp α] {c : Ce} {v : Value} {l : List α} (h : RepL c v l) : okCell v = true := by
  obtain ⟨a, cap, rfl, _⟩ := h.val
  rfl
theorem within_c {s : List UInt8} {c : UInt8} (hs : s.length ≤ 1000000000) (hk : k (.bool (decide (c ∈ s))) σ) : kCall Try.prog 10 [.string (bs s), .int .u8 c.toNat] σ k := by
  refine f10 ?_
  (try simp (maxSteps := 1000000) (dsimp := false) (disch := (first | omega | (simp only [okR]; done) | (simp only [sizeR] <;> omega) | fail)) only [↓preR, postR, ↓w_join, Nat.reduceEqDiff, Nat.reduceAdd, Nat.reduceSub, Nat.reduceMul, Int.reduceNeg, Nat.reduceLT, Int.reduceToNat, Nat.reduceLeDiff, Nat.sub_zero, F10])
  refine loop_by (α := Nat) (fun i => [.int .i64 i]) (fun _ => σ) (fun i => i ≤ s.length ∧ c ∉ s.take i) (fun i => s.length - i) 0 ⟨by omega, by simp⟩ rfl rfl ?_
  intro i ⟨hi, hni⟩ again hag
  dsimp only at hi hni hag ⊢
  have hs64 : (s.length : Int) ≤ 1000000000 := by omega
  by_cases hlt : i < s.length
  · have hgc : s[i]?.getD 0 = s[i] := by rw [List.getElem?_eq_getElem hlt]; rfl
    by_cases he : ((s[i]).toNat : Int) = c.toNat
    · have he' : s[i] = c := UInt8.toNat_inj.1 (by omega)
      have hin : c ∈ s := he' ▸ List.getElem_mem hlt
      (try simp (maxSteps := 1000000) (dsimp := false) (disch := (first | omega | (simp only [okR]; done) | (simp only [sizeR] <;> omega) | fail)) only [↓preR, postR, ↓w_join, Nat.reduceEqDiff, Nat.reduceAdd, Nat.reduceSub, Nat.reduceMul, Int.reduceNeg, Nat.reduceLT, Int.reduceToNat, Nat.reduceLeDiff, Nat.sub_zero, hgc, decT he])
      rw [decide_eq_true hin] at hk
      exact hk
    · (try simp (maxSteps := 1000000) (dsimp := false) (disch := (first | omega | (simp only [okR]; done) | (simp only [sizeR] <;> omega) | fail)) only [↓preR, postR, ↓w_join, Nat.reduceEqDiff, Nat.reduceAdd, Nat.reduceSub, Nat.reduceMul, Int.reduceNeg, Nat.reduceLT, Int.reduceToNat, Nat.reduceLeDiff, Nat.sub_zero, hgc, decF he])
      refine hag (i + 1) ⟨by omega, ?_⟩ (by omega)
      rw [List.take_succ_eq_append_getElem hlt]
      simp only [List.mem_append, List.mem_singleton, not_or]
      exact ⟨hni, fun e => he (by rw [e])⟩
  · obtain rfl : i = s.length := by omega
    rw [List.take_length] at hni
    (try simp (maxSteps := 1000000) (dsimp := false) (disch := (first | omega | (simp only [okR]; done) | (simp only [sizeR] <;> omega) | fail)) only [↓preR, postR, ↓w_join, Nat.reduceEqDiff, Nat.reduceAdd, Nat.reduceSub, Nat.reduceMul, Int.reduceNeg, Nat.reduceLT, Int.reduceToNat, Nat.reduceLeDiff, Nat.sub_zero])
    rw [decide_eq_false hni] at hk
    exact hk
def fewB (l : List Pc) : Bool := decide (l.length ≤ 30) && l.all fun p => decide (p.1.length ≤ 100)
theorem few_c {v0 : Value} {l : List Pc} (h0 : RepL (α := Pc) σ.ld v0 l) (hk : k (.bool (fewB l)) σ) : kCall Try.prog 8 [v0] σ k := by
  obtain ⟨a, cap, rfl, _, hat⟩ := pcs_at h0
  refine f8 ?_
  by_cases h30 : l.length ≤ 30
  · have h30' : (l.length : Int) ≤ 30 := by omega
    (try simp (maxSteps := 1000000) (dsimp := false) (disch := (first | omega | (simp only [okR]; done) | (simp only [sizeR] <;> omega) | fail)) only [↓preR, postR, ↓w_join, Nat.reduceEqDiff, Nat.reduceAdd, Nat.reduceSub, Nat.reduceMul, Int.reduceNeg, Nat.reduceLT, Int.reduceToNat, Nat.reduceLeDiff, Nat.sub_zero, F8])
    refine loop_by (α := Nat) (fun i => [.int .i64 i]) (fun _ => σ) (fun i => i ≤ l.length ∧ (l.take i).all (fun p => decide (p.1.length ≤ 100)) = true) (fun i => l.length - i) 0 ⟨by omega, by simp⟩ rfl rfl ?_
    intro i ⟨hi, hall⟩ again hag
    dsimp only at hi hall hag ⊢
    by_cases hlt : i < l.length
    · rcases hat with rfl | ⟨b, o, rfl, hat⟩
      · simp at hlt
      obtain ⟨_, _, e0, _⟩ := hat i hlt
      by_cases h100 : l[i].1.length ≤ 100
      · (try simp (maxSteps := 1000000) (dsimp := false) (disch := (first | omega | (simp only [okR]; done) | (simp only [sizeR] <;> omega) | fail)) only [↓preR, postR, ↓w_join, Nat.reduceEqDiff, Nat.reduceAdd, Nat.reduceSub, Nat.reduceMul, Int.reduceNeg, Nat.reduceLT, Int.reduceToNat, Nat.reduceLeDiff, Nat.sub_zero, e0])
        refine hag (i + 1) ⟨by omega, ?_⟩ (by omega)
        rw [List.take_succ_eq_append_getElem hlt, List.all_append, hall]
        simp [h100]
      · (try simp (maxSteps := 1000000) (dsimp := false) (disch := (first | omega | (simp only [okR]; done) | (simp only [sizeR] <;> omega) | fail)) only [↓preR, postR, ↓w_join, Nat.reduceEqDiff, Nat.reduceAdd, Nat.reduceSub, Nat.reduceMul, Int.reduceNeg, Nat.reduceLT, Int.reduceToNat, Nat.reduceLeDiff, Nat.sub_zero, e0])
        have : fewB l = false := by
          simp only [fewB, Bool.and_eq_false_iff]
          right
          rw [List.all_eq_false]
          exact ⟨l[i], List.getElem_mem hlt, by simp [h100]⟩
        rw [this] at hk
        exact hk
    · obtain rfl : i = l.length := by omega
      rw [List.take_length] at hall
      (try simp (maxSteps := 1000000) (dsimp := false) (disch := (first | omega | (simp only [okR]; done) | (simp only [sizeR] <;> omega) | fail)) only [↓preR, postR, ↓w_join, Nat.reduceEqDiff, Nat.reduceAdd, Nat.reduceSub, Nat.reduceMul, Int.reduceNeg, Nat.reduceLT, Int.reduceToNat, Nat.reduceLeDiff, Nat.sub_zero])
      rw [show fewB l = true from by simp only [fewB, hall, decide_eq_true h30, Bool.and_true]] at hk
      exact hk
  · have h30' : ¬ (l.length : Int) ≤ 30 := by omega
    (try simp (maxSteps := 1000000) (dsimp := false) (disch := (first | omega | (simp only [okR]; done) | (simp only [sizeR] <;> omega) | fail)) only [↓preR, postR, ↓w_join, Nat.reduceEqDiff, Nat.reduceAdd, Nat.reduceSub, Nat.reduceMul, Int.reduceNeg, Nat.reduceLT, Int.reduceToNat, Nat.reduceLeDiff, Nat.sub_zero, F8])
    rw [show fewB l = false from by simp only [fewB, decide_eq_false h30, Bool.false_and]] at hk
    exact hk
theorem few_many {l : List Pc} (h : fewB l = true) : many l ≤ 3030 := by
  simp only [fewB, Bool.and_eq_true, decide_eq_true_eq, List.all_eq_true] at h
  obtain ⟨h1, h2⟩ := h
  have : ∀ l : List Pc, (∀ p ∈ l, p.1.length ≤ 100) → many l ≤ l.length * 101 := by
    intro l
    induction l with
    | nil => intro _; simp [many]
    | cons p l ih =>
      intro h
      have e : many (p :: l) = (p.1.length + 1) + many l := by simp [many]
      have h1 := h p (by simp)
      have h2 := ih (fun q hq => h q (by simp [hq]))
      rw [e, List.length_cons]; omega
  have := this l h2
  omega
theorem rep_max {α : Type} [Rp α] {c : Ce} {v : Value} {l : List α} (h : RepL c v l) : l.length ≤ 9223372036854775807 := by
  obtain ⟨a, cap, _, h1, h2⟩ := h.val
  unfold maxLen at h2
  omega
theorem same_c {t1 t2 : List UInt8} {q1 q2 : List Bool} {w1 w2 : Value} (h1 : RepL σ.ld w1 q1) (h2 : RepL σ.ld w2 q2) (l1 : q1.length ≤ 9223372036854775807)
    (hk : ∀ σ', Chg [] σ σ' → k (.bool (decide (((t1, q1) : Fd) = (t2, q2)))) σ') : kCall Try.prog 13 [.agg [.string (bs t1), w1].toArray, .agg [.string (bs t2), w2].toArray] σ k := by
  refine f13 ?_
  obtain ⟨a1, c1, rfl, _⟩ := bools_at h1
  obtain ⟨a2, c2, rfl, _⟩ := bools_at h2
  have hl1 : (q1.length : Int) ≤ 9223372036854775807 := by omega
  (try simp (maxSteps := 1000000) (dsimp := false) (disch := (first | omega | (simp only [okR]; done) | (simp only [sizeR] <;> omega) | fail)) only [↓preR, postR, ↓w_join, Nat.reduceEqDiff, Nat.reduceAdd, Nat.reduceSub, Nat.reduceMul, Int.reduceNeg, Nat.reduceLT, Int.reduceToNat, Nat.reduceLeDiff, Nat.sub_zero, F13])
  generalize hz : ((σ.new _).new _) = σ2
  have k2 : Chg [] σ σ2 := by rw [← hz]; exact ((Chg.refl _ _).new _).new _
  have m1 : σ2.m σ.n = some (.cells [.string (bs t1), .slice a1 q1.length c1]) := by rw [← hz]; (try simp (maxSteps := 1000000) (dsimp := false) (disch := (first | omega | (simp only [okR]; done) | (simp only [sizeR] <;> omega) | fail)) only [↓preR, postR, ↓w_join, Nat.reduceEqDiff, Nat.reduceAdd, Nat.reduceSub, Nat.reduceMul, Int.reduceNeg, Nat.reduceLT, Int.reduceToNat, Nat.reduceLeDiff, Nat.sub_zero])
  have m2 : σ2.m (σ.n + 1) = some (.cells [.string (bs t2), .slice a2 q2.length c2]) := by rw [← hz]; (try simp (maxSteps := 1000000) (dsimp := false) (disch := (first | omega | (simp only [okR]; done) | (simp only [sizeR] <;> omega) | fail)) only [↓preR, postR, ↓w_join, Nat.reduceEqDiff, Nat.reduceAdd, Nat.reduceSub, Nat.reduceMul, Int.reduceNeg, Nat.reduceLT, Int.reduceToNat, Nat.reduceLeDiff, Nat.sub_zero])
  have r1 := (RepL.mono k2.le h1)
  have r2 := (RepL.mono k2.le h2)
  by_cases ht : t1 = t2
  · subst ht
    by_cases hq : q1.length = q2.length
    · have hq' : (q1.length : Int) = q2.length := by omega
      (try simp (maxSteps := 1000000) (dsimp := false) (disch := (first | omega | (simp only [okR]; done) | (simp only [sizeR] <;> omega) | fail)) only [↓preR, postR, ↓w_join, Nat.reduceEqDiff, Nat.reduceAdd, Nat.reduceSub, Nat.reduceMul, Int.reduceNeg, Nat.reduceLT, Int.reduceToNat, Nat.reduceLeDiff, Nat.sub_zero, m1, m2])
      refine loop_by (α := Nat) (fun i => [.int .i64 i]) (fun _ => σ2) (fun i => i ≤ q1.length ∧ q1.take i = q2.take i) (fun i => q1.length - i) 0 ⟨by omega, by simp⟩ rfl rfl ?_
      intro i ⟨hi, hall⟩ again hag
      dsimp only at hi hall hag ⊢
      by_cases hlt : i < q1.length
      · have hlt2 : i < q2.length := by omega
        obtain ⟨_, _, e1, _, x1⟩ := bools_at r1
        obtain ⟨_, _, e2, _, x2⟩ := bools_at r2
        injection e1 with e1 _ _
        injection e2 with e2 _ _
        subst e1 e2
        rcases x1 with rfl | ⟨b1, o1, rfl, x1⟩
        · simp at hlt
        rcases x2 with rfl | ⟨b2, o2, rfl, x2⟩
        · simp at hlt2
        have y1 := x1 i hlt
        have y2 := x2 i hlt2
        have hlt2' : (i : Int) < q2.length := by omega
        by_cases hb : q1[i] = q2[i]
        · have hb' : (q1[i] == q2[i]) = true := by simp [hb]
          rw [ldc] at y1 y2
          (try simp (maxSteps := 1000000) (dsimp := false) (disch := (first | omega | (simp only [okR]; done) | (simp only [sizeR] <;> omega) | fail)) only [↓preR, postR, ↓w_join, Nat.reduceEqDiff, Nat.reduceAdd, Nat.reduceSub, Nat.reduceMul, Int.reduceNeg, Nat.reduceLT, Int.reduceToNat, Nat.reduceLeDiff, Nat.sub_zero, m1, m2, y1, y2, hb'])
          refine hag (i + 1) ⟨by omega, ?_⟩ (by omega)
          rw [List.take_succ_eq_append_getElem hlt, List.take_succ_eq_append_getElem hlt2, hall, hb]
        · have hb' : (q1[i] == q2[i]) = false := by simp [hb]
          rw [ldc] at y1 y2
          (try simp (maxSteps := 1000000) (dsimp := false) (disch := (first | omega | (simp only [okR]; done) | (simp only [sizeR] <;> omega) | fail)) only [↓preR, postR, ↓w_join, Nat.reduceEqDiff, Nat.reduceAdd, Nat.reduceSub, Nat.reduceMul, Int.reduceNeg, Nat.reduceLT, Int.reduceToNat, Nat.reduceLeDiff, Nat.sub_zero, m1, m2, y1, y2, hb'])
          have := hk σ2 k2
          rw [decide_eq_false (fun e => hb (by injection e with _ e; subst e; rfl))] at this
          exact this
      · obtain rfl : i = q1.length := by omega
        rw [List.take_length, hq, List.take_length] at hall
        subst hall
        (try simp (maxSteps := 1000000) (dsimp := false) (disch := (first | omega | (simp only [okR]; done) | (simp only [sizeR] <;> omega) | fail)) only [↓preR, postR, ↓w_join, Nat.reduceEqDiff, Nat.reduceAdd, Nat.reduceSub, Nat.reduceMul, Int.reduceNeg, Nat.reduceLT, Int.reduceToNat, Nat.reduceLeDiff, Nat.sub_zero, m1])
        have := hk σ2 k2
        rw [decide_eq_true rfl] at this
        exact this
    · have hq' : ¬ (q1.length : Int) = q2.length := by omega
      (try simp (maxSteps := 1000000) (dsimp := false) (disch := (first | omega | (simp only [okR]; done) | (simp only [sizeR] <;> omega) | fail)) only [↓preR, postR, ↓w_join, Nat.reduceEqDiff, Nat.reduceAdd, Nat.reduceSub, Nat.reduceMul, Int.reduceNeg, Nat.reduceLT, Int.reduceToNat, Nat.reduceLeDiff, Nat.sub_zero, m1, m2])
      have := hk σ2 k2
      rw [decide_eq_false (fun e => hq (by injection e with _ e; rw [e]))] at this
      exact this
  · (try simp (maxSteps := 1000000) (dsimp := false) (disch := (first | omega | (simp only [okR]; done) | (simp only [sizeR] <;> omega) | fail)) only [↓preR, postR, ↓w_join, Nat.reduceEqDiff, Nat.reduceAdd, Nat.reduceSub, Nat.reduceMul, Int.reduceNeg, Nat.reduceLT, Int.reduceToNat, Nat.reduceLeDiff, Nat.sub_zero, m1, m2])
    have := hk σ2 k2
    rw [decide_eq_false (fun e => ht (by injection e))] at this
    exact this
theorem all_c {v1 v2 : Value} {l1 l2 : List Fd} (h1 : RepL (α := Fld) σ.ld v1 l1) (h2 : RepL (α := Fld) σ.ld v2 l2)
    (hk : ∀ σ', Chg [] σ σ' → k (.bool (decide (l1 = l2))) σ') : kCall Try.prog 17 [v1, v2] σ k := by
  have hb := rep_max h1
  obtain ⟨a1, c1, rfl, _⟩ := flds_at h1
  obtain ⟨a2, c2, rfl, _⟩ := flds_at h2
  refine f17 ?_
  by_cases hl : l1.length = l2.length
  · have hl' : (l1.length : Int) = l2.length := by omega
    (try simp (maxSteps := 1000000) (dsimp := false) (disch := (first | omega | (simp only [okR]; done) | (simp only [sizeR] <;> omega) | fail)) only [↓preR, postR, ↓w_join, Nat.reduceEqDiff, Nat.reduceAdd, Nat.reduceSub, Nat.reduceMul, Int.reduceNeg, Nat.reduceLT, Int.reduceToNat, Nat.reduceLeDiff, Nat.sub_zero, F17])
    refine loop_by (α := Nat × AS) (fun x => [.int .i64 x.1]) (fun x => x.2) (fun x => x.1 ≤ l1.length ∧ l1.take x.1 = l2.take x.1 ∧ Chg [] σ x.2) (fun x => l1.length - x.1) (0, σ) ⟨by simp, by simp, Chg.refl _ _⟩ rfl rfl ?_
    rintro ⟨i, σ2⟩ ⟨hi, hall, k2⟩ again hag
    dsimp only at hi hall k2 hag ⊢
    by_cases hlt : i < l1.length
    · have hlt2 : i < l2.length := by omega
      obtain ⟨_, _, e1, _, x1⟩ := flds_at (RepL.mono k2.le h1)
      obtain ⟨_, _, e2, _, x2⟩ := flds_at (RepL.mono k2.le h2)
      injection e1 with e1 _ _
      injection e2 with e2 _ _
      subst e1 e2
      rcases x1 with rfl | ⟨b1, o1, rfl, x1⟩
      · simp at hlt
      rcases x2 with rfl | ⟨b2, o2, rfl, x2⟩
      · simp at hlt2
      obtain ⟨w1, _, g1, _, y1, z1⟩ := x1 i hlt
      obtain ⟨w2, _, g2, _, y2, z2⟩ := x2 i hlt2
      have hlt2' : (i : Int) < l2.length := by omega
      have hl1' : (l1.length : Int) ≤ 9223372036854775807 := by omega
      rw [ldc] at y1 y2 z1 z2
      (simp (maxSteps := 1000000) (dsimp := false) (disch := (first | omega | (simp only [okR]; done) | (simp only [sizeR] <;> omega) | fail)) only [↓preR, postR, ↓w_join, Nat.reduceEqDiff, Nat.reduceAdd, Nat.reduceSub, Nat.reduceMul, Int.reduceNeg, Nat.reduceLT, Int.reduceToNat, Nat.reduceLeDiff, Nat.sub_zero, y1, y2, z1, z2])
      refine same_c g1 g2 (rep_max g1) ?_
      intro σ3 k3
      by_cases hb : l1[i] = l2[i]
      · rw [decide_eq_true hb]
        (try simp (maxSteps := 1000000) (dsimp := false) (disch := (first | omega | (simp only [okR]; done) | (simp only [sizeR] <;> omega) | fail)) only [↓preR, postR, ↓w_join, Nat.reduceEqDiff, Nat.reduceAdd, Nat.reduceSub, Nat.reduceMul, Int.reduceNeg, Nat.reduceLT, Int.reduceToNat, Nat.reduceLeDiff, Nat.sub_zero])
        refine hag (i + 1, σ3) ⟨by omega, ?_, k2.step k3 (by simp)⟩ (by simp; omega)
        rw [List.take_succ_eq_append_getElem hlt, List.take_succ_eq_append_getElem hlt2, hall, hb]
      · rw [decide_eq_false hb]
        (try simp (maxSteps := 1000000) (dsimp := false) (disch := (first | omega | (simp only [okR]; done) | (simp only [sizeR] <;> omega) | fail)) only [↓preR, postR, ↓w_join, Nat.reduceEqDiff, Nat.reduceAdd, Nat.reduceSub, Nat.reduceMul, Int.reduceNeg, Nat.reduceLT, Int.reduceToNat, Nat.reduceLeDiff, Nat.sub_zero])
        have := hk σ3 (k2.step k3 (by simp))
        rw [decide_eq_false (fun e => hb (by subst e; rfl))] at this
        exact this
    · obtain rfl : i = l1.length := by omega
      rw [List.take_length, hl, List.take_length] at hall
      subst hall
      (try simp (maxSteps := 1000000) (dsimp := false) (disch := (first | omega | (simp only [okR]; done) | (simp only [sizeR] <;> omega) | fail)) only [↓preR, postR, ↓w_join, Nat.reduceEqDiff, Nat.reduceAdd, Nat.reduceSub, Nat.reduceMul, Int.reduceNeg, Nat.reduceLT, Int.reduceToNat, Nat.reduceLeDiff, Nat.sub_zero])
      have := hk σ2 k2
      rw [decide_eq_true rfl] at this
      exact this
  · have hl' : ¬ (l1.length : Int) = l2.length := by omega
    (try simp (maxSteps := 1000000) (dsimp := false) (disch := (first | omega | (simp only [okR]; done) | (simp only [sizeR] <;> omega) | fail)) only [↓preR, postR, ↓w_join, Nat.reduceEqDiff, Nat.reduceAdd, Nat.reduceSub, Nat.reduceMul, Int.reduceNeg, Nat.reduceLT, Int.reduceToNat, Nat.reduceLeDiff, Nat.sub_zero, F17])
    have := hk σ (Chg.refl _ _)
    rw [decide_eq_false (fun e => hl (by rw [e]))] at this
    exact this
theorem plain_c {v : Value} {l : List Fd} (h : RepL (α := Fld) σ.ld v l) (hb : l.length ≤ 1000000000) (hk : ∀ σ' v', RepL (α := Fld) σ'.ld v' l → Chg [] σ σ' → k v' σ') : kCall Try.prog 12 [v] σ k := by
  obtain ⟨a, c, rfl, _⟩ := flds_at h
  refine f12 ?_
  (try simp (maxSteps := 1000000) (dsimp := false) (disch := (first | omega | (simp only [okR]; done) | (simp only [sizeR] <;> omega) | fail)) only [↓preR, postR, ↓w_join, Nat.reduceEqDiff, Nat.reduceAdd, Nat.reduceSub, Nat.reduceMul, Int.reduceNeg, Nat.reduceLT, Int.reduceToNat, Nat.reduceLeDiff, Nat.sub_zero, F12])
  refine loop_by (α := Nat × AS × Value) (fun x => [x.2.2, .int .i64 x.1]) (fun x => x.2.1) (fun x => x.1 ≤ l.length ∧ OwnR (α := Fld) x.2.1 (ownL x.2.2) x.2.2 (l.take x.1) ∧ (∀ g, g ∈ ownL x.2.2 → σ.n ≤ g) ∧ Chg [] σ x.2.1) (fun x => l.length - x.1) (0, σ, .slice none 0 0) ⟨by simp, OwnR.nil, by simp [ownL], Chg.refl _ _⟩ rfl rfl ?_
  rintro ⟨i, σ2, ov⟩ ⟨hi, ho, hge, k2⟩ again hag
  dsimp only at hi ho hge k2 hag ⊢
  have hl' : (l.length : Int) ≤ 1000000000 := by omega
  by_cases hlt : i < l.length
  · obtain ⟨_, _, e1, _, x1⟩ := flds_at (RepL.mono k2.le h)
    injection e1 with e1 _ _
    subst e1
    rcases x1 with rfl | ⟨b1, o1, rfl, x1⟩
    · simp at hlt
    obtain ⟨w, ht, g, _, y, z⟩ := x1 i hlt
    have cw : cellsV w = [w] := by obtain ⟨a, c, rfl, _⟩ := g.val; rfl
    rw [ldc] at y z
    (simp (maxSteps := 1000000) (dsimp := false) (disch := (first | omega | (simp only [okR]; done) | (simp only [sizeR] <;> omega) | fail)) only [↓preR, postR, ↓w_join, Nat.reduceEqDiff, Nat.reduceAdd, Nat.reduceSub, Nat.reduceMul, Int.reduceNeg, Nat.reduceLT, Int.reduceToNat, Nat.reduceLeDiff, Nat.sub_zero, y, z, cw])
    generalize hz : σ2.new _ = σ3
    have k3 : Chg [] σ2 σ3 := by rw [← hz]; exact (Chg.refl _ _).new _
    have m3 : σ3.m σ2.n = some (.cells [.string (bs l[i].1), w]) := by rw [← hz]; exact new_eq_
    have n3 : σ3.n = σ2.n + 1 := by rw [← hz]; rfl
    have ml : (l.take i).length = i := by rw [List.length_take]; omega
    obtain ⟨w', _, g', _, y', z'⟩ : ∃ w', l[i].1.length ≤ maxLen ∧ RepL σ.ld w' l[i].2 ∧ True ∧ ldc σ b1 (o1 + i * 2 + 1) = some w' ∧ w' = w := by
      obtain ⟨_, _, e1, _, x0⟩ := flds_at h
      injection e1 with e1 _ _
      rcases x0 with rfl | ⟨b0, o0, rfl, x0⟩
      · simp at hlt
      injection e1 with e1
      injection e1 with e1 e2 _
      subst e1 e2
      obtain ⟨w', ht', g', _, _, z'⟩ := x0 i hlt
      refine ⟨w', ht', g', trivial, z', ?_⟩
      have hh : σ.ld b1 (o1 + i * 2 + 1) = some w' := by rw [ld_ob]; exact z'
      have := k2.ld hh (by simp)
      rw [ld_ob, z] at this
      exact (Option.some.inj this).symm
    subst z'
    have o3 : OwnR (α := Fld) σ3 (σ3.n :: ownL ov) ov (l.take i) := (ho.chg k3 (fun _ _ => by simp) (fun _ h => by simp at h)).more (fun g hg => by
      simp at hg
      rcases hg with rfl | hg
      · exact .inr (Nat.le_refl _)
      · exact .inl hg)
    have hle : Ce.le σ.ld (sans σ3 (σ3.n :: ownL ov)) := le_sans (k2.step k3 (by simp)) (fun g hg => by
      simp at hg
      rcases hg with rfl | hg
      · have := k2.n; omega
      · exact hge g hg)
    refine appR_by (α := Fld) Try.underlying33 (by kernel_rfl : infB Try.prog 36 2 40 = true) o3 (fun g hg => by simp [hg]) (m := 1) (ms := [l[i]]) (news := [.string (bs l[i].1), w']) ?_ (RpL.one ⟨[.string (bs l[i].1)], [w'], rfl, ⟨rfl, ht⟩, ⟨w', rfl, g'.mono hle⟩⟩) rfl (by show (List.length (List.take i l) + 1) * 40 ≤ _; omega) (by show List.length (List.take i l) + 1 ≤ _; unfold maxLen; omega) ?_
    · rw [ldsM m3 _ 0 (by simp [Rp.sz])]; rfl
    intro v' σ4 o4 c4 g4
    have k4 : Chg [] σ σ4 := (k2.step k3 (by simp)).step c4 (fun g hg => .inr (hge g hg))
    (try simp (maxSteps := 1000000) (dsimp := false) (disch := (first | omega | (simp only [okR]; done) | (simp only [sizeR] <;> omega) | fail)) only [↓preR, postR, ↓w_join, Nat.reduceEqDiff, Nat.reduceAdd, Nat.reduceSub, Nat.reduceMul, Int.reduceNeg, Nat.reduceLT, Int.reduceToNat, Nat.reduceLeDiff, Nat.sub_zero])
    have := hag (i + 1, σ4, v') ⟨by omega, ?_, ?_, k4⟩ (by simp; omega)
    · simpa using this
    · dsimp only
      rw [List.take_succ_eq_append_getElem hlt]
      exact o4.more (fun g hg => .inl (by
        rcases g4 g hg with h | h
        · simp [h]
        · simp [h]))
    · intro g hg
      have := k2.n
      rcases g4 g hg with h | h
      · exact hge g h
      · omega
  · obtain rfl : i = l.length := by omega
    rw [List.take_length] at ho
    (try simp (maxSteps := 1000000) (dsimp := false) (disch := (first | omega | (simp only [okR]; done) | (simp only [sizeR] <;> omega) | fail)) only [↓preR, postR, ↓w_join, Nat.reduceEqDiff, Nat.reduceAdd, Nat.reduceSub, Nat.reduceMul, Int.reduceNeg, Nat.reduceLT, Int.reduceToNat, Nat.reduceLeDiff, Nat.sub_zero])
    exact hk _ _ ho.rep k2
theorem pc_rp {c : Ce} {p : Pc} (h : p.1.length ≤ maxLen) : Rp.rp (α := Pc) c p [.string (bs p.1), .bool p.2.1, .bool p.2.2.1, .bool p.2.2.2] :=
  ⟨[.string (bs p.1)], _, rfl, ⟨rfl, h⟩, [.bool p.2.1], _, rfl, rfl, [.bool p.2.2.1], _, rfl, rfl, rfl⟩
theorem pieces_c {v : Value} {l : List Pc} (h : RepL (α := Pc) σ.ld v l) (hb : l.length ≤ 1000000000) (hk : ∀ σ' v', RepL (α := Pc) σ'.ld v' l → Chg [] σ σ' → k v' σ') : kCall Try.prog 15 [v] σ k := by
  obtain ⟨a, c, rfl, _⟩ := pcs_at h
  refine f15 ?_
  (try simp (maxSteps := 1000000) (dsimp := false) (disch := (first | omega | (simp only [okR]; done) | (simp only [sizeR] <;> omega) | fail)) only [↓preR, postR, ↓w_join, Nat.reduceEqDiff, Nat.reduceAdd, Nat.reduceSub, Nat.reduceMul, Int.reduceNeg, Nat.reduceLT, Int.reduceToNat, Nat.reduceLeDiff, Nat.sub_zero, F15])
  refine loop_by (α := Nat × AS × Value) (fun x => [x.2.2, .int .i64 x.1]) (fun x => x.2.1) (fun x => x.1 ≤ l.length ∧ OwnR (α := Pc) x.2.1 (ownL x.2.2) x.2.2 (l.take x.1) ∧ (∀ g, g ∈ ownL x.2.2 → σ.n ≤ g) ∧ Chg [] σ x.2.1) (fun x => l.length - x.1) (0, σ, .slice none 0 0) ⟨by simp, OwnR.nil, by simp [ownL], Chg.refl _ _⟩ rfl rfl ?_
  rintro ⟨i, σ2, ov⟩ ⟨hi, ho, hge, k2⟩ again hag
  dsimp only at hi ho hge k2 hag ⊢
  have hl' : (l.length : Int) ≤ 1000000000 := by omega
  by_cases hlt : i < l.length
  · obtain ⟨_, _, e1, _, x1⟩ := pcs_at (RepL.mono k2.le h)
    injection e1 with e1 _ _
    subst e1
    rcases x1 with rfl | ⟨b1, o1, rfl, x1⟩
    · simp at hlt
    obtain ⟨ht, _, y0, y1, y2, y3⟩ := x1 i hlt
    rw [ldc] at y0 y1 y2 y3
    have y2' : ldOb (σ2.c b1 (o1 + i * 4 + 2)) (σ2.m b1) (o1 + i * 4 + 2) = some (.bool l[i].2.2.1) := y2
    have y3' : ldOb (σ2.c b1 (o1 + i * 4 + 3)) (σ2.m b1) (o1 + i * 4 + 3) = some (.bool l[i].2.2.2) := y3
    (simp (maxSteps := 1000000) (dsimp := false) (disch := (first | omega | (simp only [okR]; done) | (simp only [sizeR] <;> omega) | fail)) only [↓preR, postR, ↓w_join, Nat.reduceEqDiff, Nat.reduceAdd, Nat.reduceSub, Nat.reduceMul, Int.reduceNeg, Nat.reduceLT, Int.reduceToNat, Nat.reduceLeDiff, Nat.sub_zero, y0, y1, y2', y3'])
    generalize hz : σ2.new _ = σ3
    have k3 : Chg [] σ2 σ3 := by rw [← hz]; exact (Chg.refl _ _).new _
    have m3 : σ3.m σ2.n = some (.cells [.string (bs l[i].1), .bool l[i].2.1, .bool l[i].2.2.1, .bool l[i].2.2.2]) := by rw [← hz]; exact new_eq_
    have n3 : σ3.n = σ2.n + 1 := by rw [← hz]; rfl
    have ml : (l.take i).length = i := by rw [List.length_take]; omega
    have o3 : OwnR (α := Pc) σ3 (σ3.n :: ownL ov) ov (l.take i) := (ho.chg k3 (fun _ _ => by simp) (fun _ h => by simp at h)).more (fun g hg => by
      simp at hg
      rcases hg with rfl | hg
      · exact .inr (Nat.le_refl _)
      · exact .inl hg)
    refine appR_by (α := Pc) Try.underlying43 (by kernel_rfl : infB Try.prog 62 4 24 = true) o3 (fun g hg => by simp [hg]) (m := 1) (ms := [l[i]]) (news := [.string (bs l[i].1), .bool l[i].2.1, .bool l[i].2.2.1, .bool l[i].2.2.2]) ?_ (RpL.one (pc_rp ht)) rfl (by show (List.length (List.take i l) + 1) * 24 ≤ _; omega) (by show List.length (List.take i l) + 1 ≤ _; unfold maxLen; omega) ?_
    · rw [ldsM m3 _ 0 (by simp [Rp.sz])]; rfl
    intro v' σ4 o4 c4 g4
    have k4 : Chg [] σ σ4 := (k2.step k3 (by simp)).step c4 (fun g hg => .inr (hge g hg))
    (try simp (maxSteps := 1000000) (dsimp := false) (disch := (first | omega | (simp only [okR]; done) | (simp only [sizeR] <;> omega) | fail)) only [↓preR, postR, ↓w_join, Nat.reduceEqDiff, Nat.reduceAdd, Nat.reduceSub, Nat.reduceMul, Int.reduceNeg, Nat.reduceLT, Int.reduceToNat, Nat.reduceLeDiff, Nat.sub_zero])
    have := hag (i + 1, σ4, v') ⟨by omega, ?_, ?_, k4⟩ (by simp; omega)
    · simpa using this
    · dsimp only
      rw [List.take_succ_eq_append_getElem hlt]
      exact o4.more (fun g hg => .inl (by
        rcases g4 g hg with h | h
        · simp [h]
        · simp [h]))
    · intro g hg
      have := k2.n
      rcases g4 g hg with h | h
      · exact hge g h
      · omega
  · obtain rfl : i = l.length := by omega
    rw [List.take_length] at ho
    (try simp (maxSteps := 1000000) (dsimp := false) (disch := (first | omega | (simp only [okR]; done) | (simp only [sizeR] <;> omega) | fail)) only [↓preR, postR, ↓w_join, Nat.reduceEqDiff, Nat.reduceAdd, Nat.reduceSub, Nat.reduceMul, Int.reduceNeg, Nat.reduceLT, Int.reduceToNat, Nat.reduceLeDiff, Nat.sub_zero])
    exact hk _ _ ho.rep k2
/-- One. -/
def one1 (f : Fd) (p : Pc) : Fd := if p.2.2.2 then (f.1 ++ [32], f.2 ++ [false]) else (f.1 ++ p.1, f.2 ++ List.replicate p.1.length p.2.1)
theorem oneM_eq (l : List Pc) : oneM l = l.foldl one1 ([], []) := rfl
theorem one_len : ∀ (l : List Pc) (f : Fd), f.2.length = f.1.length → (l.foldl one1 f).2.length = (l.foldl one1 f).1.length ∧ (l.foldl one1 f).1.length ≤ f.1.length + many l
  | [], f, h => ⟨h, by simp [many]⟩
  | p :: l, f, h => by
    have e : many (p :: l) = (p.1.length + 1) + many l := by simp [many]
    have h1 : (one1 f p).2.length = (one1 f p).1.length ∧ (one1 f p).1.length ≤ f.1.length + (p.1.length + 1) := by
      unfold one1
      split <;> simp [h] <;> omega
    have := one_len l (one1 f p) h1.1
    exact ⟨this.1, by rw [e]; have := this.2; simp only [List.foldl_cons]; omega⟩
theorem many_take (l : List Pc) (i : Nat) : many (l.take i) ≤ many l := by
  have : many l = many (l.take i) + many (l.drop i) := by rw [← many_app, List.take_append_drop]
  omega
theorem many_get (l : List Pc) (i : Nat) (hi : i < l.length) : l[i].1.length + 1 ≤ many l := by
  have e : many l = many (l.take i) + (many [l[i]] + many (l.drop (i + 1))) := by
    rw [← many_app, ← many_app, List.singleton_append, ← List.drop_eq_getElem_cons hi, List.take_append_drop]
  have : many [l[i]] = l[i].1.length + 1 := by simp [many]
  omega
theorem len_many (l : List Pc) : l.length ≤ many l := by
  induction l with
  | nil => simp [many]
  | cons p l ih =>
    have e : many (p :: l) = (p.1.length + 1) + many l := by simp [many]
    rw [e, List.length_cons]; omega
theorem one_e {v0 : Value} {l : List Pc} (h0 : RepL (α := Pc) σ.ld v0 l) (hl : many l ≤ 1000000) (hk : ∀ σ' w, RepL σ'.ld w (oneM l).2 → Chg [] σ σ' → k (.agg [.string (bs (oneM l).1), w].toArray) σ') :
    kCall Try.prog 16 [v0] σ k := by
  have hlen := len_many l
  obtain ⟨va, vc, rfl, _⟩ := pcs_at h0
  refine f16 ?_
  (try simp (maxSteps := 1000000) (dsimp := false) (disch := (first | omega | (simp only [okR]; done) | (simp only [sizeR] <;> omega) | fail)) only [↓preR, postR, ↓w_join, Nat.reduceEqDiff, Nat.reduceAdd, Nat.reduceSub, Nat.reduceMul, Int.reduceNeg, Nat.reduceLT, Int.reduceToNat, Nat.reduceLeDiff, Nat.sub_zero, F16])
  generalize hz : σ.new (.cells [.string (bs []), .slice none 0 0]) = σa
  have ka : Chg [] σ σa := by rw [← hz]; exact (Chg.refl _ _).new _
  have ma : σa.m σ.n = some (.cells [.string (bs []), .slice none 0 0]) := by rw [← hz]; exact new_eq_
  have na : σa.n = σ.n + 1 := by rw [← hz]; rfl
  refine loop_by (α := Nat × AS) (fun x => [.int .i64 x.1]) (fun x => x.2) (fun x => x.1 ≤ l.length ∧ ∃ M, Mk x.2 M σa.n ((l.take x.1).foldl one1 ([], [])).1 ((l.take x.1).foldl one1 ([], [])).2 ∧ Chg [] σa x.2 ∧ ∀ g, g ∈ M → σa.n ≤ g) (fun x => l.length - x.1) (0, _) ⟨by simp, [σa.n], mk_new, (Chg.refl _ _).new _, by simp⟩ rfl rfl ?_
  rintro ⟨i, σ2⟩ ⟨hi, M, mk, k2, gM⟩ again hag
  dsimp only at hi mk k2 gM hag ⊢
  have hl' : (l.length : Int) ≤ 1000000 := by omega
  have ol := one_len (l.take i) ([], []) rfl
  have mt := many_take l i
  by_cases hlt : i < l.length
  · have mg := many_get l i hlt
    have nxt : ∀ f', f' = one1 ((l.take i).foldl one1 ([], [])) l[i] → ∀ σ' M', Mk σ' M' σa.n f'.1 f'.2 → Chg [] σa σ' → (∀ g, g ∈ M' → σa.n ≤ g) → again [.int .i64 ((i : Int) + 1)] σ' := by
      intro f' hf σ' M' h1 h2 h3
      have := hag (i + 1, σ') ⟨by omega, M', by
        dsimp only
        rw [List.take_succ_eq_append_getElem hlt, List.foldl_append, List.foldl_cons, List.foldl_nil, ← hf]
        exact h1, h2, h3⟩ (by simp; omega)
      simpa using this
    generalize (l.take i).foldl one1 ([], []) = f at mk nxt ol
    obtain ⟨_, _, e1, _, x1⟩ := pcs_at (RepL.mono (ka.step k2 (by simp)).le h0)
    injection e1 with e1 _ _
    subst e1
    rcases x1 with rfl | ⟨b1, o1, rfl, x1⟩
    · simp at hlt
    obtain ⟨ht, _, y0, y1, y2, y3⟩ := x1 i hlt
    generalize l[i] = pc at ht y0 y1 y2 y3 nxt mg
    obtain ⟨t, q, sp, br⟩ := pc
    dsimp only [ldc, List.length_nil] at ht y0 y1 y2 y3 mg ol
    (simp (maxSteps := 1000000) (dsimp := false) (disch := (first | omega | (simp only [okR]; done) | (simp only [sizeR] <;> omega) | fail)) only [↓preR, postR, ↓w_join, Nat.reduceEqDiff, Nat.reduceAdd, Nat.reduceSub, Nat.reduceMul, Int.reduceNeg, Nat.reduceLT, Int.reduceToNat, Nat.reduceLeDiff, Nat.sub_zero, y0, y1, y2, y3])
    generalize hz : AS.put _ σ2.n _ = σ3
    have c3 : Chg [] σ2 σ3 := by rw [← hz]; exact ((Chg.refl _ σ2).new _).put (.inr (by omega)) _
    have hE : σ3.m σ2.n = some (.cells [.string (bs t), .bool q, .bool sp, .bool br]) := by rw [← hz]; (try simp (maxSteps := 1000000) (dsimp := false) (disch := (first | omega | (simp only [okR]; done) | (simp only [sizeR] <;> omega) | fail)) only [↓preR, postR, ↓w_join, Nat.reduceEqDiff, Nat.reduceAdd, Nat.reduceSub, Nat.reduceMul, Int.reduceNeg, Nat.reduceLT, Int.reduceToNat, Nat.reduceLeDiff, Nat.sub_zero])
    have mk3 := mk.chg c3 (fun _ _ => by simp)
    have k3 : Chg [] σa σ3 := k2.step c3 (by simp)
    cases br
    · (simp (maxSteps := 1000000) (dsimp := false) (disch := (first | omega | (simp only [okR]; done) | (simp only [sizeR] <;> omega) | fail)) only [↓preR, postR, ↓w_join, Nat.reduceEqDiff, Nat.reduceAdd, Nat.reduceSub, Nat.reduceMul, Int.reduceNeg, Nat.reduceLT, Int.reduceToNat, Nat.reduceLeDiff, Nat.sub_zero, hE])
      refine add_e q mk3 (by omega) (by omega) ?_
      intro σ4 M4 mk4 c4 g4
      (try simp (maxSteps := 1000000) (dsimp := false) (disch := (first | omega | (simp only [okR]; done) | (simp only [sizeR] <;> omega) | fail)) only [↓preR, postR, ↓w_join, Nat.reduceEqDiff, Nat.reduceAdd, Nat.reduceSub, Nat.reduceMul, Int.reduceNeg, Nat.reduceLT, Int.reduceToNat, Nat.reduceLeDiff, Nat.sub_zero])
      refine nxt (f.1 ++ t, f.2 ++ List.replicate t.length q) ?_ _ M4 mk4 (k3.step c4 (fun g hg => .inr (gM g hg))) (fun g hg => ?_)
      · simp [one1]
      · have := k3.n
        rcases g4 g hg with h | h
        · exact gM g h
        · omega
    · (simp (maxSteps := 1000000) (dsimp := false) (disch := (first | omega | (simp only [okR]; done) | (simp only [sizeR] <;> omega) | fail)) only [↓preR, postR, ↓w_join, Nat.reduceEqDiff, Nat.reduceAdd, Nat.reduceSub, Nat.reduceMul, Int.reduceNeg, Nat.reduceLT, Int.reduceToNat, Nat.reduceLeDiff, Nat.sub_zero, hE])
      refine add_e (s := [32]) false mk3 (by simp; omega) (by simp; omega) ?_
      intro σ4 M4 mk4 c4 g4
      (try simp (maxSteps := 1000000) (dsimp := false) (disch := (first | omega | (simp only [okR]; done) | (simp only [sizeR] <;> omega) | fail)) only [↓preR, postR, ↓w_join, Nat.reduceEqDiff, Nat.reduceAdd, Nat.reduceSub, Nat.reduceMul, Int.reduceNeg, Nat.reduceLT, Int.reduceToNat, Nat.reduceLeDiff, Nat.sub_zero])
      refine nxt (f.1 ++ [32], f.2 ++ [false]) ?_ _ M4 mk4 (k3.step c4 (fun g hg => .inr (gM g hg))) (fun g hg => ?_)
      · simp [one1]
      · have := k3.n
        rcases g4 g hg with h | h
        · exact gM g h
        · omega
  · obtain rfl : i = l.length := by omega
    rw [List.take_length] at mk ol
    rw [← oneM_eq] at mk ol
    dsimp only [List.length_nil] at ol
    (try simp (maxSteps := 1000000) (dsimp := false) (disch := (first | omega | (simp only [okR]; done) | (simp only [sizeR] <;> omega) | fail)) only [↓preR, postR, ↓w_join, Nat.reduceEqDiff, Nat.reduceAdd, Nat.reduceSub, Nat.reduceMul, Int.reduceNeg, Nat.reduceLT, Int.reduceToNat, Nat.reduceLeDiff, Nat.sub_zero])
    refine field_e mk (by omega) ?_
    intro σ3 w hw hwM c3
    have m3 : σ3.m σ.n = some (.cells [.string (bs []), .slice none 0 0]) := by
      rw [c3.m _ (by have := k2.n; omega) (fun h => by have := gM _ h; omega), k2.m _ (by omega) (by simp)]; exact ma
    have cw : cellsV w = [w] := by obtain ⟨a, c, rfl, _⟩ := hw.val; rfl
    have okl : ([.string (bs (oneM l).1), w] : List Value).all okCell = true := by simp only [List.all_cons, hw.ok]; rfl
    (try simp (maxSteps := 1000000) (dsimp := false) (disch := (first | omega | (simp only [okR]; done) | (simp only [sizeR] <;> omega) | fail)) only [↓preR, postR, ↓w_join, Nat.reduceEqDiff, Nat.reduceAdd, Nat.reduceSub, Nat.reduceMul, Int.reduceNeg, Nat.reduceLT, Int.reduceToNat, Nat.reduceLeDiff, Nat.sub_zero, m3, cw, okl])
    have k3 : Chg [] σ (σ3.put σ.n (.cells [.string (bs (oneM l).1), w])) := ((ka.step k2 (by simp)).step c3 (fun g hg => .inr (by have := gM g hg; omega))).put (.inr (by omega)) _
    refine hk _ w ?_ k3
    refine OwnV.rep (c := AS.ld _) (hw.chg (S := [σ.n]) ((Chg.refl _ _).put (.inl (by simp)) _) (fun g hg => by have := gM g (hwM g hg); simp; omega)) rfl (rpl_bool _ _) (Ce.le_refl _)
end
end Go.Proofs.Ytaenpaeigoeebaa
