/- Without borders there is one field at most. Conditions: as each theorem says. -/
import Derived.Test.YtaenpaeigoeebaaSplW
namespace Go.Proofs.Ytaenpaeigoeebaa
open E Go.Lib
set_option linter.unusedVariables false
set_option linter.unusedSimpArgs false
set_option maxHeartbeats 1000000
set_option maxRecDepth 20000

/-- A piece without a border. -/
def okP (ifs : List UInt8) (p : Pc) : Prop := p.2.2.2 = false ∧ (p.2.1 = true ∨ p.2.2.1 = false ∨ ∀ c ∈ p.1, c ∉ ifs)
def isP (p : Pc) : Bool := p.2.1 || decide (¬ p.1 = [])
theorem add_add (s : SS) (t u : List UInt8) (b : Bool) : (s.add t b).add u b = s.add (t ++ u) b := by
  unfold SS.add SS.cur
  simp only [Option.getD_some, List.append_assoc, List.length_append, List.replicate_append_replicate]
theorem signs_not (ifs : List UInt8) : ∀ (t : List UInt8) (s : SS), (∀ c ∈ t, c ∉ ifs) → s.mark = false → t.foldl (SS.sign ifs) s = if t = [] then s else s.add t false
  | [], s, _, _ => rfl
  | c :: t, s, h, hm => by
    rw [List.foldl_cons, SS.sign_not (h c (by simp)), signs_not ifs t _ (fun d hd => h d (by simp [hd])) rfl]
    have e : s.there.add [c] false = s.add [c] false := rfl
    rw [e]
    by_cases ht : t = []
    · subst ht; simp
    · rw [if_neg ht, if_neg (by simp), add_add]; rfl
theorem piece_whole (ifs : List UInt8) (o : Option Fd) (p : Pc) (h : okP ifs p) : SS.piece ifs ⟨[], o, false⟩ p = ⟨[], if isP p then some (one1 (o.getD ([], [])) p) else o, false⟩ := by
  obtain ⟨t, q, sp, br⟩ := p
  obtain ⟨h1, h2⟩ := h
  dsimp only at h1 h2
  subst h1
  unfold SS.piece isP one1
  dsimp only
  cases q
  · have key : (if t = [] then (⟨[], o, false⟩ : SS) else SS.add ⟨[], o, false⟩ t false) = ⟨[], if decide (¬ t = []) then some ((o.getD ([], [])).1 ++ t, (o.getD ([], [])).2 ++ List.replicate t.length false) else o, false⟩ := by
      by_cases ht : t = []
      · simp [ht]
      · simp [ht, SS.add, SS.cur]
    cases sp
    · simp only [Bool.false_eq_true, if_false, Bool.false_or]
      exact key
    · have h3 : ∀ c ∈ t, c ∉ ifs := by simpa using h2
      simp only [Bool.false_eq_true, if_false, if_true, Bool.false_or]
      rw [signs_not ifs t _ h3 rfl]
      exact key
  · simp [SS.add, SS.cur]
theorem fold_whole (ifs : List UInt8) : ∀ (l : List Pc) (o : Option Fd), (∀ p ∈ l, okP ifs p) → l.foldl (SS.piece ifs) ⟨[], o, false⟩ = ⟨[], if o.isSome || l.any isP then some (l.foldl one1 (o.getD ([], []))) else none, false⟩
  | [], o, _ => by cases o <;> rfl
  | p :: l, o, h => by
    rw [List.foldl_cons, piece_whole ifs o p (h p (by simp)), fold_whole ifs l _ (fun q hq => h q (by simp [hq]))]
    have hp : isP p = false → one1 (o.getD ([], [])) p = o.getD ([], []) := by
      intro hp
      obtain ⟨t, q, sp, br⟩ := p
      have hb := (h (t, q, sp, br) (by simp)).1
      simp only [isP, Bool.or_eq_false_iff, decide_eq_false_iff_not, Decidable.not_not] at hp
      dsimp only at hb hp
      obtain ⟨rfl, rfl⟩ := hp
      subst hb
      simp [one1]
    cases hi : isP p
    · have := hp hi
      simp only [Bool.false_eq_true, if_false, List.any_cons, hi, Bool.false_or, List.foldl_cons, this]
    · simp [hi]
theorem whole_pure (ifs : List UInt8) (l : List Pc) (h : ∀ p ∈ l, okP ifs p) : fieldsM l ifs = if l.any isP then [oneM l] else [] := by
  have := fold_whole ifs l none h
  unfold fieldsM fieldsS
  rw [show SS.zero = ⟨[], none, false⟩ from rfl, this]
  cases l.any isP <;> rfl
section
variable {σ : AS}
theorem whole_walk {v0 : Value} {l : List Pc} {ifs : List UInt8} (h0 : RepL (α := Pc) σ.ld v0 l) (hi64 : ifs.length ≤ maxLen) :
    kCall Try.prog 7 [v0, .string (bs ifs)] σ fun v _ => v = .bool true := by
  obtain ⟨va, vc, rfl, _, hat⟩ := pcs_at h0
  refine f7 ?_
  (try simp (maxSteps := 1000000) (dsimp := false) (disch := (first | omega | (simp only [okR]; done) | (simp only [sizeR] <;> omega) | fail)) only [↓preR, postR, ↓w_join, Nat.reduceEqDiff, Nat.reduceAdd, Nat.reduceSub, Nat.reduceMul, Int.reduceNeg, Nat.reduceLT, Int.reduceToNat, Nat.reduceLeDiff, Nat.sub_zero, F7])
  refine few_c h0 ?_
  cases hfew : fewB l
  · (try simp (maxSteps := 1000000) (dsimp := false) (disch := (first | omega | (simp only [okR]; done) | (simp only [sizeR] <;> omega) | fail)) only [↓preR, postR, ↓w_join, Nat.reduceEqDiff, Nat.reduceAdd, Nat.reduceSub, Nat.reduceMul, Int.reduceNeg, Nat.reduceLT, Int.reduceToNat, Nat.reduceLeDiff, Nat.sub_zero])
    refine awake_ok fun σ' _ => ?_
    (try simp (maxSteps := 1000000) (dsimp := false) (disch := (first | omega | (simp only [okR]; done) | (simp only [sizeR] <;> omega) | fail)) only [↓preR, postR, ↓w_join, Nat.reduceEqDiff, Nat.reduceAdd, Nat.reduceSub, Nat.reduceMul, Int.reduceNeg, Nat.reduceLT, Int.reduceToNat, Nat.reduceLeDiff, Nat.sub_zero])
  by_cases hifs : 100 < ifs.length
  · have h100 : (100 : Int) < ifs.length := by omega
    (try simp (maxSteps := 1000000) (dsimp := false) (disch := (first | omega | (simp only [okR]; done) | (simp only [sizeR] <;> omega) | fail)) only [↓preR, postR, ↓w_join, Nat.reduceEqDiff, Nat.reduceAdd, Nat.reduceSub, Nat.reduceMul, Int.reduceNeg, Nat.reduceLT, Int.reduceToNat, Nat.reduceLeDiff, Nat.sub_zero])
    refine awake_ok fun σ' _ => ?_
    (try simp (maxSteps := 1000000) (dsimp := false) (disch := (first | omega | (simp only [okR]; done) | (simp only [sizeR] <;> omega) | fail)) only [↓preR, postR, ↓w_join, Nat.reduceEqDiff, Nat.reduceAdd, Nat.reduceSub, Nat.reduceMul, Int.reduceNeg, Nat.reduceLT, Int.reduceToNat, Nat.reduceLeDiff, Nat.sub_zero])
  have h100 : ¬ (100 : Int) < ifs.length := by omega
  have hmany := few_many hfew
  have hlen := len_many l
  have hl64 : (l.length : Int) ≤ 3030 := by omega
  (try simp (maxSteps := 1000000) (dsimp := false) (disch := (first | omega | (simp only [okR]; done) | (simp only [sizeR] <;> omega) | fail)) only [↓preR, postR, ↓w_join, Nat.reduceEqDiff, Nat.reduceAdd, Nat.reduceSub, Nat.reduceMul, Int.reduceNeg, Nat.reduceLT, Int.reduceToNat, Nat.reduceLeDiff, Nat.sub_zero])
  refine loop_by (α := Nat) (fun i => [.bool ((l.take i).any isP), .int .i64 i]) (fun _ => σ) (fun i => i ≤ l.length ∧ ∀ p ∈ l.take i, okP ifs p) (fun i => l.length - i) 0 ⟨by omega, by simp⟩ rfl rfl ?_
  intro i ⟨hi, hok⟩ again hag
  dsimp only at hi hok hag ⊢
  by_cases hlt : i < l.length
  · rcases hat with rfl | ⟨b, o, rfl, hat⟩
    · simp at hlt
    have mg := many_get l i hlt
    have nxt : okP ifs l[i] → again [.bool ((l.take i).any isP || isP l[i]), .int .i64 ((i : Int) + 1)] σ := by
      intro h
      have := hag (i + 1) ⟨by omega, by
        rw [List.take_succ_eq_append_getElem hlt]
        intro p hp
        simp only [List.mem_append, List.mem_singleton] at hp
        rcases hp with hp | rfl
        · exact hok p hp
        · exact h⟩ (by omega)
      rw [List.take_succ_eq_append_getElem hlt, List.any_append] at this
      simpa using this
    obtain ⟨ht, _, y0, y1, y2, y3⟩ := hat i hlt
    generalize l[i] = pc at ht y0 y1 y2 y3 nxt mg
    obtain ⟨t, q, sp, br⟩ := pc
    have z2 : ldOb (σ.c b (o + i * 4 + 2)) (σ.m b) (o + i * 4 + 2) = some (.bool sp) := y2
    have z3 : ldOb (σ.c b (o + i * 4 + 3)) (σ.m b) (o + i * 4 + 3) = some (.bool br) := y3
    dsimp only [ldc] at ht y0 y1 mg
    generalize (l.take i).any isP = is at nxt
    cases br
    rotate_left
    · (try simp (maxSteps := 1000000) (dsimp := false) (disch := (first | omega | (simp only [okR]; done) | (simp only [sizeR] <;> omega) | fail)) only [↓preR, postR, ↓w_join, Nat.reduceEqDiff, Nat.reduceAdd, Nat.reduceSub, Nat.reduceMul, Int.reduceNeg, Nat.reduceLT, Int.reduceToNat, Nat.reduceLeDiff, Nat.sub_zero, z3])
      refine awake_ok fun σ' _ => ?_
      (try simp (maxSteps := 1000000) (dsimp := false) (disch := (first | omega | (simp only [okR]; done) | (simp only [sizeR] <;> omega) | fail)) only [↓preR, postR, ↓w_join, Nat.reduceEqDiff, Nat.reduceAdd, Nat.reduceSub, Nat.reduceMul, Int.reduceNeg, Nat.reduceLT, Int.reduceToNat, Nat.reduceLeDiff, Nat.sub_zero])
    (simp (maxSteps := 1000000) (dsimp := false) (disch := (first | omega | (simp only [okR]; done) | (simp only [sizeR] <;> omega) | fail)) only [↓preR, postR, ↓w_join, Nat.reduceEqDiff, Nat.reduceAdd, Nat.reduceSub, Nat.reduceMul, Int.reduceNeg, Nat.reduceLT, Int.reduceToNat, Nat.reduceLeDiff, Nat.sub_zero, z3])
    refine loop_by (α := Nat) (fun j => [.int .i64 j]) (fun _ => σ) (fun j => j ≤ t.length ∧ (q = true ∨ sp = false ∨ ∀ c ∈ t.take j, c ∉ ifs)) (fun j => t.length - j) 0 ⟨by omega, by simp⟩ rfl rfl ?_
    intro j ⟨hj, hcs⟩ again2 hag2
    dsimp only at hj hcs hag2 ⊢
    have ht64 : (t.length : Int) ≤ 3030 := by omega
    by_cases hjt : j < t.length
    · have hgc : t[j]?.getD 0 = t[j] := by rw [List.getElem?_eq_getElem hjt]; rfl
      cases q
      · cases sp
        · (try simp (maxSteps := 1000000) (dsimp := false) (disch := (first | omega | (simp only [okR]; done) | (simp only [sizeR] <;> omega) | fail)) only [↓preR, postR, ↓w_join, Nat.reduceEqDiff, Nat.reduceAdd, Nat.reduceSub, Nat.reduceMul, Int.reduceNeg, Nat.reduceLT, Int.reduceToNat, Nat.reduceLeDiff, Nat.sub_zero, y0, y1, z2, hgc])
          exact hag2 (j + 1) ⟨by omega, by simp⟩ (by omega)
        · (simp (maxSteps := 1000000) (dsimp := false) (disch := (first | omega | (simp only [okR]; done) | (simp only [sizeR] <;> omega) | fail)) only [↓preR, postR, ↓w_join, Nat.reduceEqDiff, Nat.reduceAdd, Nat.reduceSub, Nat.reduceMul, Int.reduceNeg, Nat.reduceLT, Int.reduceToNat, Nat.reduceLeDiff, Nat.sub_zero, y0, y1, z2, hgc])
          refine within_c (by omega) ?_
          by_cases hin : t[j] ∈ ifs
          · rw [decide_eq_true hin]
            (try simp (maxSteps := 1000000) (dsimp := false) (disch := (first | omega | (simp only [okR]; done) | (simp only [sizeR] <;> omega) | fail)) only [↓preR, postR, ↓w_join, Nat.reduceEqDiff, Nat.reduceAdd, Nat.reduceSub, Nat.reduceMul, Int.reduceNeg, Nat.reduceLT, Int.reduceToNat, Nat.reduceLeDiff, Nat.sub_zero])
            refine awake_ok fun σ' _ => ?_
            (try simp (maxSteps := 1000000) (dsimp := false) (disch := (first | omega | (simp only [okR]; done) | (simp only [sizeR] <;> omega) | fail)) only [↓preR, postR, ↓w_join, Nat.reduceEqDiff, Nat.reduceAdd, Nat.reduceSub, Nat.reduceMul, Int.reduceNeg, Nat.reduceLT, Int.reduceToNat, Nat.reduceLeDiff, Nat.sub_zero])
          · rw [decide_eq_false hin]
            (try simp (maxSteps := 1000000) (dsimp := false) (disch := (first | omega | (simp only [okR]; done) | (simp only [sizeR] <;> omega) | fail)) only [↓preR, postR, ↓w_join, Nat.reduceEqDiff, Nat.reduceAdd, Nat.reduceSub, Nat.reduceMul, Int.reduceNeg, Nat.reduceLT, Int.reduceToNat, Nat.reduceLeDiff, Nat.sub_zero])
            refine hag2 (j + 1) ⟨by omega, .inr (.inr ?_)⟩ (by omega)
            have h3 : ∀ c ∈ t.take j, c ∉ ifs := by simpa using hcs
            rw [List.take_succ_eq_append_getElem hjt]
            intro c hc
            simp only [List.mem_append, List.mem_singleton] at hc
            rcases hc with hc | rfl
            · exact h3 c hc
            · exact hin
      · (try simp (maxSteps := 1000000) (dsimp := false) (disch := (first | omega | (simp only [okR]; done) | (simp only [sizeR] <;> omega) | fail)) only [↓preR, postR, ↓w_join, Nat.reduceEqDiff, Nat.reduceAdd, Nat.reduceSub, Nat.reduceMul, Int.reduceNeg, Nat.reduceLT, Int.reduceToNat, Nat.reduceLeDiff, Nat.sub_zero, y0, y1, z2, hgc])
        exact hag2 (j + 1) ⟨by omega, .inl rfl⟩ (by omega)
    · obtain rfl : j = t.length := by omega
      rw [List.take_length] at hcs
      have nx := nxt ⟨rfl, hcs⟩
      have hp : isP (t, q, sp, false) = (q || decide (¬ t = [])) := rfl
      rw [hp] at nx
      cases is
      · cases q
        · by_cases htn : t = []
          · subst htn; (try simp (maxSteps := 1000000) (dsimp := false) (disch := (first | omega | (simp only [okR]; done) | (simp only [sizeR] <;> omega) | fail)) only [↓preR, postR, ↓w_join, Nat.reduceEqDiff, Nat.reduceAdd, Nat.reduceSub, Nat.reduceMul, Int.reduceNeg, Nat.reduceLT, Int.reduceToNat, Nat.reduceLeDiff, Nat.sub_zero, y0, y1]); simpa using nx
          · (try simp (maxSteps := 1000000) (dsimp := false) (disch := (first | omega | (simp only [okR]; done) | (simp only [sizeR] <;> omega) | fail)) only [↓preR, postR, ↓w_join, Nat.reduceEqDiff, Nat.reduceAdd, Nat.reduceSub, Nat.reduceMul, Int.reduceNeg, Nat.reduceLT, Int.reduceToNat, Nat.reduceLeDiff, Nat.sub_zero, y0, y1]); simpa [htn] using nx
        · (try simp (maxSteps := 1000000) (dsimp := false) (disch := (first | omega | (simp only [okR]; done) | (simp only [sizeR] <;> omega) | fail)) only [↓preR, postR, ↓w_join, Nat.reduceEqDiff, Nat.reduceAdd, Nat.reduceSub, Nat.reduceMul, Int.reduceNeg, Nat.reduceLT, Int.reduceToNat, Nat.reduceLeDiff, Nat.sub_zero, y0, y1]); simpa using nx
      · (try simp (maxSteps := 1000000) (dsimp := false) (disch := (first | omega | (simp only [okR]; done) | (simp only [sizeR] <;> omega) | fail)) only [↓preR, postR, ↓w_join, Nat.reduceEqDiff, Nat.reduceAdd, Nat.reduceSub, Nat.reduceMul, Int.reduceNeg, Nat.reduceLT, Int.reduceToNat, Nat.reduceLeDiff, Nat.sub_zero, y0, y1]); simpa using nx
  · obtain rfl : i = l.length := by omega
    rw [List.take_length] at hok ⊢
    have hp := whole_pure ifs l hok
    (simp (maxSteps := 1000000) (dsimp := false) (disch := (first | omega | (simp only [okR]; done) | (simp only [sizeR] <;> omega) | fail)) only [↓preR, postR, ↓w_join, Nat.reduceEqDiff, Nat.reduceAdd, Nat.reduceSub, Nat.reduceMul, Int.reduceNeg, Nat.reduceLT, Int.reduceToNat, Nat.reduceLeDiff, Nat.sub_zero])
    refine fields_e h0 (by omega) ?_
    rw [hp]
    intro σ1 v1 r1 c1
    cases his : l.any isP
    · replace r1 : RepL (α := Fld) σ1.ld v1 [] := by simpa [his] using r1
      obtain ⟨_, _, rfl, _⟩ := flds_at r1
      (try simp (maxSteps := 1000000) (dsimp := false) (disch := (first | omega | (simp only [okR]; done) | (simp only [sizeR] <;> omega) | fail)) only [↓preR, postR, ↓w_join, Nat.reduceEqDiff, Nat.reduceAdd, Nat.reduceSub, Nat.reduceMul, Int.reduceNeg, Nat.reduceLT, Int.reduceToNat, Nat.reduceLeDiff, Nat.sub_zero])
      refine awake_ok fun σ' _ => ?_
      (try simp (maxSteps := 1000000) (dsimp := false) (disch := (first | omega | (simp only [okR]; done) | (simp only [sizeR] <;> omega) | fail)) only [↓preR, postR, ↓w_join, Nat.reduceEqDiff, Nat.reduceAdd, Nat.reduceSub, Nat.reduceMul, Int.reduceNeg, Nat.reduceLT, Int.reduceToNat, Nat.reduceLeDiff, Nat.sub_zero])
    · replace r1 : RepL (α := Fld) σ1.ld v1 [oneM l] := by simpa [his] using r1
      obtain ⟨a1, cp1, hv1, _⟩ := flds_at r1
      (try simp (maxSteps := 1000000) (dsimp := false) (disch := (first | omega | (simp only [okR]; done) | (simp only [sizeR] <;> omega) | fail)) only [↓preR, postR, ↓w_join, Nat.reduceEqDiff, Nat.reduceAdd, Nat.reduceSub, Nat.reduceMul, Int.reduceNeg, Nat.reduceLT, Int.reduceToNat, Nat.reduceLeDiff, Nat.sub_zero, hv1])
      refine plain_c (l := [oneM l]) (hv1 ▸ r1) (by simp) ?_
      intro σ2 v2 r2 c2
      obtain ⟨a2, cp2, rfl, _, hx | ⟨b2, o2, rfl, x2⟩⟩ := flds_at r2
      · cases hx
      obtain ⟨w2, _, g2, _, e2, f2⟩ := x2 0 (by simp)
      simp only [ldc, Nat.zero_mul, Nat.add_zero, List.getElem_cons_zero] at e2 f2 g2
      (simp (maxSteps := 1000000) (dsimp := false) (disch := (first | omega | (simp only [okR]; done) | (simp only [sizeR] <;> omega) | fail)) only [↓preR, postR, ↓w_join, Nat.reduceEqDiff, Nat.reduceAdd, Nat.reduceSub, Nat.reduceMul, Int.reduceNeg, Nat.reduceLT, Int.reduceToNat, Nat.reduceLeDiff, Nat.sub_zero, e2, f2])
      refine one_e (RepL.mono (c1.step c2 (by simp)).le h0) (by omega) ?_
      intro σ3 w3 g3 c3
      obtain ⟨q1, q2⟩ := one_len l ([], []) rfl
      rw [← oneM_eq] at q1 q2
      dsimp only [List.length_nil] at q2
      have cw : cellsV w3 = [w3] := by obtain ⟨a, c, rfl, _⟩ := g3.val; rfl
      have keep : ∀ {σ' : AS}, Chg [] σ2 σ' → ldOb (σ'.c b2 o2) (σ'.m b2) o2 = some (.string (bs (oneM l).1)) ∧ ldOb (σ'.c b2 (o2 + 1)) (σ'.m b2) (o2 + 1) = some w2 := fun c => by
        rw [← ld_ob] at e2 f2 ⊢
        rw [← ld_ob]
        exact ⟨c.ld e2 (by simp), c.ld f2 (by simp)⟩
      obtain ⟨e3, f3⟩ := keep c3
      have b2lt : b2 < σ3.n := by
        have := c3.n
        have := ld_lt (σ := σ2) (b := b2) (o := o2) (by rw [ld_ob]; exact e2)
        omega
      (simp (maxSteps := 1000000) (dsimp := false) (disch := (first | omega | (simp only [okR]; done) | (simp only [sizeR] <;> omega) | fail)) only [↓preR, postR, ↓w_join, Nat.reduceEqDiff, Nat.reduceAdd, Nat.reduceSub, Nat.reduceMul, Int.reduceNeg, Nat.reduceLT, Int.reduceToNat, Nat.reduceLeDiff, Nat.sub_zero, e3, f3, cw])
      generalize hz : σ3.new _ = σ4
      have k4 : Chg [] σ3 σ4 := by rw [← hz]; exact (Chg.refl _ _).new _
      have m4 : σ4.m σ3.n = some (.cells [.string (bs (oneM l).1), w3]) := by rw [← hz]; exact new_eq_
      have k24 : Chg [] σ2 σ4 := c3.step k4 (by simp)
      obtain ⟨e4, f4⟩ := keep k24
      refine plain_c (l := [oneM l]) (lit_rep m4 (RpL.one ⟨[.string (bs (oneM l).1)], [w3], rfl, ⟨rfl, ?_⟩, ⟨w3, rfl, RepL.mono k4.le g3⟩⟩) rfl (small _ (by simp))) (by simp) ?_
      · show (oneM l).1.length ≤ _
        unfold maxLen; omega
      intro σ5 v5 r5 c5
      obtain ⟨a5, cp5, rfl, _, hx | ⟨b5, o5, rfl, x5⟩⟩ := flds_at r5
      · cases hx
      obtain ⟨w5, _, g5, _, e5, f5'⟩ := x5 0 (by simp)
      simp only [ldc, Nat.zero_mul, Nat.add_zero, List.getElem_cons_zero] at e5 f5' g5
      have k25 : Chg [] σ2 σ5 := k24.step c5 (by simp)
      obtain ⟨e6, f6'⟩ := keep k25
      (simp (maxSteps := 1000000) (dsimp := false) (disch := (first | omega | (simp only [okR]; done) | (simp only [sizeR] <;> omega) | fail)) only [↓preR, postR, ↓w_join, Nat.reduceEqDiff, Nat.reduceAdd, Nat.reduceSub, Nat.reduceMul, Int.reduceNeg, Nat.reduceLT, Int.reduceToNat, Nat.reduceLeDiff, Nat.sub_zero, e5, f5', e6, f6'])
      refine same_c (RepL.mono k25.le g2) g5 (by omega) ?_
      intro σ6 c6
      rw [decide_eq_true rfl]
      (try simp (maxSteps := 1000000) (dsimp := false) (disch := (first | omega | (simp only [okR]; done) | (simp only [sizeR] <;> omega) | fail)) only [↓preR, postR, ↓w_join, Nat.reduceEqDiff, Nat.reduceAdd, Nat.reduceSub, Nat.reduceMul, Int.reduceNeg, Nat.reduceLT, Int.reduceToNat, Nat.reduceLeDiff, Nat.sub_zero])
      refine awake_ok fun σ' _ => ?_
      (try simp (maxSteps := 1000000) (dsimp := false) (disch := (first | omega | (simp only [okR]; done) | (simp only [sizeR] <;> omega) | fail)) only [↓preR, postR, ↓w_join, Nat.reduceEqDiff, Nat.reduceAdd, Nat.reduceSub, Nat.reduceMul, Int.reduceNeg, Nat.reduceLT, Int.reduceToNat, Nat.reduceLeDiff, Nat.sub_zero])
theorem pcs_arg {c : Ce} {v : Value} (A : OV c (shOf Try.prog 8 22) v) : ∃ l : List Pc, RepL c v l := by
  rw [show shOf Try.prog 8 22 = .slice (.fld 1 .str (.fld 1 .bool (.fld 1 .bool (.fld 1 .bool .fin)))) (1 + (1 + (1 + 1))) from by kernel_rfl] at A
  exact arg_list (α := Pc) A
theorem str_arg {c : Ce} {v : Value} (A : OV c (shOf Try.prog 8 9) v) : ∃ l : List UInt8, v = .string (bs l) ∧ l.length ≤ maxLen := by
  rw [show shOf Try.prog 8 9 = .str from by kernel_rfl] at A
  exact arg_str A
theorem whole_law {v0 v1 : Value} (A0 : OV σ.c (shOf Try.prog 8 22) v0) (A1 : OV σ.c (shOf Try.prog 8 9) v1) :
    kCall Try.prog 7 [v0, v1] σ fun v _ => v = .bool true := by
  obtain ⟨l, hl⟩ := pcs_arg A0
  obtain ⟨ifs, rfl, h64⟩ := str_arg A1
  exact whole_walk (hl.mono c_le_ld) h64
end
end Go.Proofs.Ytaenpaeigoeebaa
