/- What the document's Fields and One answer; SplitFields. Conditions: as each theorem says. -/
import Derived.Test.YtaenpaeigoeebaaSplR
import Derived.Test.YtaenpaeigoeebaaSplWh
namespace Go.Proofs.Ytaenpaeigoeebaa
open E Go.Lib
set_option linter.unusedVariables false
set_option linter.unusedSimpArgs false
set_option maxHeartbeats 1000000
set_option maxRecDepth 20000

section
variable {σ σ' : AS} {k : Value → AS → Prop}
theorem RJ.outb {σ0 : AS} {p : Nat} {F : List Nat} {out : List Fd} {cur : Fd} {is mark : Bool} (h : RJ σ0 σ p F out cur is mark) : ∃ ov tv qv, σ.m p = some (.cells [ov, tv, qv, .bool is, .bool mark]) ∧ RepL (α := Fld) σ.ld ov out := by
  obtain ⟨ov, tv, qv, hF, h1, h2, _⟩ := h
  exact ⟨ov, tv, qv, h1, h2.rep⟩
theorem rfields_e {v0 : Value} {l : List Pc} {ifs : List UInt8} (h0 : RepL (α := Pc) σ.ld v0 l) (hl : many l ≤ 100000) (hi : ifs.length ≤ 1000000000) (hk : ∀ σ' v', RepL (α := Fld) σ'.ld v' (fieldsM l ifs) → Chg [] σ σ' → k v' σ') :
    kCall Try.prog 14 [v0, .string (bs ifs)] σ k := by
  have hlen := len_many l
  obtain ⟨va, vc, rfl, _, _⟩ := pcs_at h0
  refine f14 ?_
  (try simp (maxSteps := 1000000) (dsimp := false) (disch := (first | omega | (simp only [okR]; done) | (simp only [sizeR] <;> omega) | fail)) only [↓preR, postR, ↓w_join, Nat.reduceEqDiff, Nat.reduceAdd, Nat.reduceSub, Nat.reduceMul, Int.reduceNeg, Nat.reduceLT, Int.reduceToNat, Nat.reduceLeDiff, Nat.sub_zero, F14])
  have r0 := RJ.new (σ := σ) rfl
  generalize hp : σ.n = p at r0 ⊢
  generalize σ.new _ = σ1 at r0 ⊢
  refine loop_by (α := Nat × AS × List Nat) (fun x => [.int .i64 x.1]) (fun x => x.2.1) (fun x => x.1 ≤ l.length ∧ RI σ x.2.1 p x.2.2 ((l.take x.1).foldl (SS.piece ifs) SS.zero)) (fun x => l.length - x.1) (0, σ1, [p]) ⟨by simp, r0⟩ rfl rfl ?_
  rintro ⟨i, σ2, F2⟩ ⟨hi', h2⟩ again hag
  dsimp only at hi' h2 hag ⊢
  have bd2 := bd_fold ifs (l.take i) SS.bd_zero
  have mt := many_take l i
  have hl64 : (l.length : Int) ≤ 100000 := by omega
  by_cases hlt : i < l.length
  · have nxt : ∀ s', s' = SS.piece ifs ((l.take i).foldl (SS.piece ifs) SS.zero) l[i] → ∀ σ' F', RI σ σ' p F' s' → again [.int .i64 ((i : Int) + 1)] σ' := by
      intro s' hs' σ' F' h'
      have := hag (i + 1, σ', F') ⟨by omega, by
        dsimp only
        rw [List.take_succ_eq_append_getElem hlt, List.foldl_append, List.foldl_cons, List.foldl_nil, ← hs']
        exact h'⟩ (by simp; omega)
      simpa using this
    have mI : many (l.take i) + (l[i].1.length + 1) ≤ 100000 := by
      have e : many l = many (l.take i) + (many [l[i]] + many (l.drop (i + 1))) := by
        rw [← many_app, ← many_app, List.singleton_append, ← List.drop_eq_getElem_cons hlt, List.take_append_drop]
      have : many [l[i]] = l[i].1.length + 1 := by simp [many]
      omega
    rw [Nat.zero_add] at bd2
    generalize (l.take i).foldl (SS.piece ifs) SS.zero = s2 at h2 bd2 nxt
    generalize many (l.take i) = n2 at bd2 mI mt
    obtain ⟨_, _, e1, _, x1⟩ := pcs_at (RepL.mono h2.ch.le h0)
    injection e1 with e1 _ _
    subst e1
    rcases x1 with rfl | ⟨b, o, rfl, x1⟩
    · simp at hlt
    obtain ⟨ht, _, y0, y1, y2, y3⟩ := x1 i hlt
    generalize l[i] = pc at ht y0 y1 y2 y3 nxt mI
    obtain ⟨t, q, sp, br⟩ := pc
    dsimp only [ldc] at ht y0 y1 y2 y3 mI
    (simp (maxSteps := 1000000) (dsimp := false) (disch := (first | omega | (simp only [okR]; done) | (simp only [sizeR] <;> omega) | fail)) only [↓preR, postR, ↓w_join, Nat.reduceEqDiff, Nat.reduceAdd, Nat.reduceSub, Nat.reduceMul, Int.reduceNeg, Nat.reduceLT, Int.reduceToNat, Nat.reduceLeDiff, Nat.sub_zero, y0, y1, y2, y3])
    generalize hz2 : AS.put _ σ2.n _ = σ3
    have c3 : Chg [] σ2 σ3 := by rw [← hz2]; exact ((Chg.refl _ σ2).new _).put (.inr (by omega)) _
    have hE : σ3.m σ2.n = some (.cells [.string (bs t), .bool q, .bool sp, .bool br]) := by rw [← hz2]; (try simp (maxSteps := 1000000) (dsimp := false) (disch := (first | omega | (simp only [okR]; done) | (simp only [sizeR] <;> omega) | fail)) only [↓preR, postR, ↓w_join, Nat.reduceEqDiff, Nat.reduceAdd, Nat.reduceSub, Nat.reduceMul, Int.reduceNeg, Nat.reduceLT, Int.reduceToNat, Nat.reduceLeDiff, Nat.sub_zero])
    have h3 : RI σ σ3 p F2 s2 := h2.gar c3
    have heF : σ2.n ∉ F2 := fun h => Nat.lt_irrefl _ (h2.below _ h)
    clear hz2 c3 h2 y0 y1 y2 y3
    generalize σ2.n = e at hE heF ⊢
    obtain ⟨b1, b2⟩ := bd2
    cases br
    rotate_left
    · obtain ⟨ov, tv, qv, hF, m3, hrest⟩ := h3
      have h3 : RI σ σ3 p F2 s2 := ⟨ov, tv, qv, hF, m3, hrest⟩
      cases hs : s2.now.isSome
      · obtain ⟨r4, c4⟩ := RJ.flags h3 s2.now.isSome false m3 rfl
        rw [hs] at m3
        (try simp (maxSteps := 1000000) (dsimp := false) (disch := (first | omega | (simp only [okR]; done) | (simp only [sizeR] <;> omega) | fail)) only [↓preR, postR, ↓w_join, Nat.reduceEqDiff, Nat.reduceAdd, Nat.reduceSub, Nat.reduceMul, Int.reduceNeg, Nat.reduceLT, Int.reduceToNat, Nat.reduceLeDiff, Nat.sub_zero, hE, m3])
        rw [hs] at r4
        refine nxt (s2.setM false) (by simp [SS.piece, SS.fin, hs]) _ F2 ?_
        show RJ _ _ _ _ _ _ s2.now.isSome _
        rw [hs]
        exact r4
      · rw [hs] at m3
        (simp (maxSteps := 1000000) (dsimp := false) (disch := (first | omega | (simp only [okR]; done) | (simp only [sizeR] <;> omega) | fail)) only [↓preR, postR, ↓w_join, Nat.reduceEqDiff, Nat.reduceAdd, Nat.reduceSub, Nat.reduceMul, Int.reduceNeg, Nat.reduceLT, Int.reduceToNat, Nat.reduceLeDiff, Nat.sub_zero, hE, m3])
        refine end_r (n := 0) h3 (by omega) ?_
        intro σ4 F4 r4 c4 g4
        obtain ⟨ov4, tv4, qv4, hF4, m4, hr4⟩ := r4
        obtain ⟨r5, c5⟩ := RJ.flags ⟨ov4, tv4, qv4, hF4, m4, hr4⟩ false false m4 rfl
        (try simp (maxSteps := 1000000) (dsimp := false) (disch := (first | omega | (simp only [okR]; done) | (simp only [sizeR] <;> omega) | fail)) only [↓preR, postR, ↓w_join, Nat.reduceEqDiff, Nat.reduceAdd, Nat.reduceSub, Nat.reduceMul, Int.reduceNeg, Nat.reduceLT, Int.reduceToNat, Nat.reduceLeDiff, Nat.sub_zero, m4])
        exact nxt (s2.ends.setM false) (by simp [SS.piece, SS.fin, hs]) _ F4 r5
    cases q
    rotate_left
    · (simp (maxSteps := 1000000) (dsimp := false) (disch := (first | omega | (simp only [okR]; done) | (simp only [sizeR] <;> omega) | fail)) only [↓preR, postR, ↓w_join, Nat.reduceEqDiff, Nat.reduceAdd, Nat.reduceSub, Nat.reduceMul, Int.reduceNeg, Nat.reduceLT, Int.reduceToNat, Nat.reduceLeDiff, Nat.sub_zero, hE])
      refine add_r true h3 b1 (by omega) ?_
      intro σ4 F4 r4 c4 g4
      (try simp (maxSteps := 1000000) (dsimp := false) (disch := (first | omega | (simp only [okR]; done) | (simp only [sizeR] <;> omega) | fail)) only [↓preR, postR, ↓w_join, Nat.reduceEqDiff, Nat.reduceAdd, Nat.reduceSub, Nat.reduceMul, Int.reduceNeg, Nat.reduceLT, Int.reduceToNat, Nat.reduceLeDiff, Nat.sub_zero])
      exact nxt (s2.add t true) (by simp [SS.piece]) _ F4 r4
    cases sp
    · by_cases htn : t = []
      · subst htn
        (try simp (maxSteps := 1000000) (dsimp := false) (disch := (first | omega | (simp only [okR]; done) | (simp only [sizeR] <;> omega) | fail)) only [↓preR, postR, ↓w_join, Nat.reduceEqDiff, Nat.reduceAdd, Nat.reduceSub, Nat.reduceMul, Int.reduceNeg, Nat.reduceLT, Int.reduceToNat, Nat.reduceLeDiff, Nat.sub_zero, hE])
        exact nxt s2 (by simp [SS.piece]) _ F2 h3
      · (simp (maxSteps := 1000000) (dsimp := false) (disch := (first | omega | (simp only [okR]; done) | (simp only [sizeR] <;> omega) | fail)) only [↓preR, postR, ↓w_join, Nat.reduceEqDiff, Nat.reduceAdd, Nat.reduceSub, Nat.reduceMul, Int.reduceNeg, Nat.reduceLT, Int.reduceToNat, Nat.reduceLeDiff, Nat.sub_zero, hE, decF htn])
        refine add_r false h3 b1 (by omega) ?_
        intro σ4 F4 r4 c4 g4
        (try simp (maxSteps := 1000000) (dsimp := false) (disch := (first | omega | (simp only [okR]; done) | (simp only [sizeR] <;> omega) | fail)) only [↓preR, postR, ↓w_join, Nat.reduceEqDiff, Nat.reduceAdd, Nat.reduceSub, Nat.reduceMul, Int.reduceNeg, Nat.reduceLT, Int.reduceToNat, Nat.reduceLeDiff, Nat.sub_zero])
        exact nxt (s2.add t false) (by simp [SS.piece, htn]) _ F4 r4
    · (simp (maxSteps := 1000000) (dsimp := false) (disch := (first | omega | (simp only [okR]; done) | (simp only [sizeR] <;> omega) | fail)) only [↓preR, postR, ↓w_join, Nat.reduceEqDiff, Nat.reduceAdd, Nat.reduceSub, Nat.reduceMul, Int.reduceNeg, Nat.reduceLT, Int.reduceToNat, Nat.reduceLeDiff, Nat.sub_zero, hE])
      refine loop_by (α := Nat × AS × List Nat) (fun x => [.int .i64 x.1]) (fun x => x.2.1) (fun x => x.1 ≤ t.length ∧ RI σ x.2.1 p x.2.2 ((t.take x.1).foldl (SS.sign ifs) s2) ∧ x.2.1.m e = some (.cells [.string (bs t), .bool false, .bool true, .bool false]) ∧ e ∉ x.2.2) (fun x => t.length - x.1) (0, σ3, F2) ⟨by simp, h3, hE, heF⟩ rfl rfl ?_
      rintro ⟨j, σ4, F4⟩ ⟨hj, h4, hE4, he4⟩ again2 hag2
      dsimp only at hj h4 hE4 he4 hag2 ⊢
      have bd4 := SS.bd_signs ifs (t.take j) ⟨b1, b2⟩
      have ht64 : (t.length : Int) ≤ 100000 := by omega
      by_cases hjt : j < t.length
      · have ml : (t.take j).length = j := by rw [List.length_take]; omega
        rw [ml] at bd4
        have hgc : t[j]?.getD 0 = t[j] := by rw [List.getElem?_eq_getElem hjt]; rfl
        (simp (maxSteps := 1000000) (dsimp := false) (disch := (first | omega | (simp only [okR]; done) | (simp only [sizeR] <;> omega) | fail)) only [↓preR, postR, ↓w_join, Nat.reduceEqDiff, Nat.reduceAdd, Nat.reduceSub, Nat.reduceMul, Int.reduceNeg, Nat.reduceLT, Int.reduceToNat, Nat.reduceLeDiff, Nat.sub_zero, hE4, hgc])
        refine sign_r h4 bd4 (by omega) hi ?_
        intro σ5 F5 h5 c5 g5
        obtain ⟨hE5, he5⟩ := keepE hE4 he4 c5 g5
        (try simp (maxSteps := 1000000) (dsimp := false) (disch := (first | omega | (simp only [okR]; done) | (simp only [sizeR] <;> omega) | fail)) only [↓preR, postR, ↓w_join, Nat.reduceEqDiff, Nat.reduceAdd, Nat.reduceSub, Nat.reduceMul, Int.reduceNeg, Nat.reduceLT, Int.reduceToNat, Nat.reduceLeDiff, Nat.sub_zero])
        have := hag2 (j + 1, σ5, F5) ⟨by omega, by
          dsimp only
          rw [List.take_succ_eq_append_getElem hjt, List.foldl_append, List.foldl_cons, List.foldl_nil]
          exact h5, hE5, he5⟩ (by simp; omega)
        simpa using this
      · obtain rfl : j = t.length := by omega
        rw [List.take_length] at h4
        (try simp (maxSteps := 1000000) (dsimp := false) (disch := (first | omega | (simp only [okR]; done) | (simp only [sizeR] <;> omega) | fail)) only [↓preR, postR, ↓w_join, Nat.reduceEqDiff, Nat.reduceAdd, Nat.reduceSub, Nat.reduceMul, Int.reduceNeg, Nat.reduceLT, Int.reduceToNat, Nat.reduceLeDiff, Nat.sub_zero, hE4])
        exact nxt _ (by simp [SS.piece]) _ F4 h4
  · obtain rfl : i = l.length := by omega
    rw [List.take_length] at h2 bd2
    obtain ⟨b1, b2⟩ := bd2
    have hfm : fieldsM l ifs = ((l.foldl (SS.piece ifs) SS.zero).fin).out := rfl
    generalize l.foldl (SS.piece ifs) SS.zero = s2 at h2 b1 b2 hfm
    obtain ⟨ov, tv, qv, m2, r2⟩ := h2.outb
    cases hs : s2.now.isSome
    · rw [hs] at m2
      (try simp (maxSteps := 1000000) (dsimp := false) (disch := (first | omega | (simp only [okR]; done) | (simp only [sizeR] <;> omega) | fail)) only [↓preR, postR, ↓w_join, Nat.reduceEqDiff, Nat.reduceAdd, Nat.reduceSub, Nat.reduceMul, Int.reduceNeg, Nat.reduceLT, Int.reduceToNat, Nat.reduceLeDiff, Nat.sub_zero, m2])
      refine hk _ _ ?_ h2.ch
      rw [hfm, SS.fin, hs]
      exact r2
    · rw [hs] at m2
      (simp (maxSteps := 1000000) (dsimp := false) (disch := (first | omega | (simp only [okR]; done) | (simp only [sizeR] <;> omega) | fail)) only [↓preR, postR, ↓w_join, Nat.reduceEqDiff, Nat.reduceAdd, Nat.reduceSub, Nat.reduceMul, Int.reduceNeg, Nat.reduceLT, Int.reduceToNat, Nat.reduceLeDiff, Nat.sub_zero, m2])
      refine end_r (n := 0) h2 (by omega) ?_
      intro σ4 F4 r4 c4 g4
      obtain ⟨ov4, tv4, qv4, m4, q4⟩ := r4.outb
      (try simp (maxSteps := 1000000) (dsimp := false) (disch := (first | omega | (simp only [okR]; done) | (simp only [sizeR] <;> omega) | fail)) only [↓preR, postR, ↓w_join, Nat.reduceEqDiff, Nat.reduceAdd, Nat.reduceSub, Nat.reduceMul, Int.reduceNeg, Nat.reduceLT, Int.reduceToNat, Nat.reduceLeDiff, Nat.sub_zero, m4])
      refine hk _ _ ?_ r4.ch
      rw [hfm, SS.fin, hs]
      exact q4
theorem rone_e {v0 : Value} {l : List Pc} (h0 : RepL (α := Pc) σ.ld v0 l) (hl : many l ≤ 100000) (hk : ∀ σ' w, RepL σ'.ld w (oneM l).2 → Chg [] σ σ' → k (.agg [.string (bs (oneM l).1), w].toArray) σ') :
    kCall Try.prog 18 [v0] σ k := by
  have hlen := len_many l
  obtain ⟨va, vc, rfl, _, _⟩ := pcs_at h0
  refine f18 ?_
  (try simp (maxSteps := 1000000) (dsimp := false) (disch := (first | omega | (simp only [okR]; done) | (simp only [sizeR] <;> omega) | fail)) only [↓preR, postR, ↓w_join, Nat.reduceEqDiff, Nat.reduceAdd, Nat.reduceSub, Nat.reduceMul, Int.reduceNeg, Nat.reduceLT, Int.reduceToNat, Nat.reduceLeDiff, Nat.sub_zero, F18])
  generalize hz : σ.new (.cells [.string (bs []), .slice none 0 0]) = σa
  have ka : Chg [] σ σa := by rw [← hz]; exact (Chg.refl _ _).new _
  have ma : σa.m σ.n = some (.cells [.string (bs []), .slice none 0 0]) := by rw [← hz]; exact new_eq_
  have na : σa.n = σ.n + 1 := by rw [← hz]; rfl
  have r0 := RJ.new (σ := σa) rfl
  generalize hp : σa.n = p at r0 ⊢
  generalize σa.new _ = σ1 at r0 ⊢
  refine loop_by (α := Nat × AS × List Nat) (fun x => [.int .i64 x.1]) (fun x => x.2.1) (fun x => x.1 ≤ l.length ∧ ∃ is mark, RJ σa x.2.1 p x.2.2 [] ((l.take x.1).foldl one1 ([], [])) is mark) (fun x => l.length - x.1) (0, σ1, [p]) ⟨by simp, _, _, r0⟩ rfl rfl ?_
  rintro ⟨i, σ2, F2⟩ ⟨hi, is, mark, h2⟩ again hag
  dsimp only at hi h2 hag ⊢
  have hl64 : (l.length : Int) ≤ 100000 := by omega
  have ol := one_len (l.take i) ([], []) rfl
  have mt := many_take l i
  by_cases hlt : i < l.length
  · have mg := many_get l i hlt
    have nxt : ∀ f', f' = one1 ((l.take i).foldl one1 ([], [])) l[i] → ∀ σ' F' is mark, RJ σa σ' p F' [] f' is mark → again [.int .i64 ((i : Int) + 1)] σ' := by
      intro f' hf σ' F' is mark h1
      have := hag (i + 1, σ', F') ⟨by omega, is, mark, by
        dsimp only
        rw [List.take_succ_eq_append_getElem hlt, List.foldl_append, List.foldl_cons, List.foldl_nil, ← hf]
        exact h1⟩ (by simp; omega)
      simpa using this
    generalize (l.take i).foldl one1 ([], []) = f at h2 nxt ol
    obtain ⟨_, _, e1, _, x1⟩ := pcs_at (RepL.mono (ka.step h2.ch (by simp)).le h0)
    injection e1 with e1 _ _
    subst e1
    rcases x1 with rfl | ⟨b, o, rfl, x1⟩
    · simp at hlt
    obtain ⟨ht, _, y0, y1, y2, y3⟩ := x1 i hlt
    generalize l[i] = pc at ht y0 y1 y2 y3 nxt mg
    obtain ⟨t, q, sp, br⟩ := pc
    have z3 : ldOb (σ2.c b (o + i * 4 + 3)) (σ2.m b) (o + i * 4 + 3) = some (.bool br) := y3
    dsimp only [ldc, List.length_nil] at ht y0 y1 mg ol
    cases br
    · (simp (maxSteps := 1000000) (dsimp := false) (disch := (first | omega | (simp only [okR]; done) | (simp only [sizeR] <;> omega) | fail)) only [↓preR, postR, ↓w_join, Nat.reduceEqDiff, Nat.reduceAdd, Nat.reduceSub, Nat.reduceMul, Int.reduceNeg, Nat.reduceLT, Int.reduceToNat, Nat.reduceLeDiff, Nat.sub_zero, y0, y1, z3])
      refine add_r q h2 ol.1 (by omega) ?_
      intro σ4 F4 r4 c4 g4
      (try simp (maxSteps := 1000000) (dsimp := false) (disch := (first | omega | (simp only [okR]; done) | (simp only [sizeR] <;> omega) | fail)) only [↓preR, postR, ↓w_join, Nat.reduceEqDiff, Nat.reduceAdd, Nat.reduceSub, Nat.reduceMul, Int.reduceNeg, Nat.reduceLT, Int.reduceToNat, Nat.reduceLeDiff, Nat.sub_zero])
      exact nxt (f.1 ++ t, f.2 ++ List.replicate t.length q) (by simp [one1]) _ F4 _ _ r4
    · (simp (maxSteps := 1000000) (dsimp := false) (disch := (first | omega | (simp only [okR]; done) | (simp only [sizeR] <;> omega) | fail)) only [↓preR, postR, ↓w_join, Nat.reduceEqDiff, Nat.reduceAdd, Nat.reduceSub, Nat.reduceMul, Int.reduceNeg, Nat.reduceLT, Int.reduceToNat, Nat.reduceLeDiff, Nat.sub_zero, y0, y1, z3])
      refine add_r (t := [32]) false h2 ol.1 (by simp; omega) ?_
      intro σ4 F4 r4 c4 g4
      (try simp (maxSteps := 1000000) (dsimp := false) (disch := (first | omega | (simp only [okR]; done) | (simp only [sizeR] <;> omega) | fail)) only [↓preR, postR, ↓w_join, Nat.reduceEqDiff, Nat.reduceAdd, Nat.reduceSub, Nat.reduceMul, Int.reduceNeg, Nat.reduceLT, Int.reduceToNat, Nat.reduceLeDiff, Nat.sub_zero])
      exact nxt (f.1 ++ [32], f.2 ++ [false]) (by simp [one1]) _ F4 _ _ r4
  · obtain rfl : i = l.length := by omega
    rw [List.take_length] at h2 ol
    rw [← oneM_eq] at h2 ol
    dsimp only [List.length_nil] at ol
    (try simp (maxSteps := 1000000) (dsimp := false) (disch := (first | omega | (simp only [okR]; done) | (simp only [sizeR] <;> omega) | fail)) only [↓preR, postR, ↓w_join, Nat.reduceEqDiff, Nat.reduceAdd, Nat.reduceSub, Nat.reduceMul, Int.reduceNeg, Nat.reduceLT, Int.reduceToNat, Nat.reduceLeDiff, Nat.sub_zero])
    refine end_r (n := 0) h2 (by simp; omega) ?_
    intro σ3 F3 r3 c3 g3
    have k3 : Chg [] σa σ3 := r3.ch
    obtain ⟨ov, tv, qv, m3, q3⟩ := r3.outb
    have s3 : σ3.m σ.n = some (.cells [.string (bs []), .slice none 0 0]) := (k3.m _ (by omega) (by simp)).trans ma
    obtain ⟨a3, cp3, rfl, _, hx | ⟨b3, o3, rfl, x3⟩⟩ := flds_at q3
    · cases hx
    obtain ⟨w3, _, g3', _, e3, f3'⟩ := x3 0 (by simp)
    simp only [ldc, Nat.zero_mul, Nat.add_zero, List.nil_append, List.getElem_cons_zero] at e3 f3' g3'
    have cw : cellsV w3 = [w3] := by obtain ⟨a, c, rfl, _⟩ := g3'.val; rfl
    have okl : ([.string (bs (oneM l).1), w3] : List Value).all okCell = true := by simp only [List.all_cons, RepL.okc g3']; rfl
    (try simp (maxSteps := 1000000) (dsimp := false) (disch := (first | omega | (simp only [okR]; done) | (simp only [sizeR] <;> omega) | fail)) only [↓preR, postR, ↓w_join, Nat.reduceEqDiff, Nat.reduceAdd, Nat.reduceSub, Nat.reduceMul, Int.reduceNeg, Nat.reduceLT, Int.reduceToNat, Nat.reduceLeDiff, Nat.sub_zero, m3, e3, f3', s3, okl])
    have kf : Chg [] σ (σ3.put σ.n (.cells [.string (bs (oneM l).1), w3])) := (ka.step k3 (by simp)).put (.inr (by omega)) _
    refine hk _ w3 ?_ kf
    have hoff : ∀ (b o : Nat) (x : Bool), σ3.ld b o = some (.bool x) → b ≠ σ.n := by
      rintro b o x hx rfl
      rw [ld_m s3] at hx
      match o, hx with
      | 0, hx => simp at hx
      | 1, hx => simp at hx
      | o + 2, hx => simp at hx
    obtain ⟨b5, o5, cp5, hv5, h51, h52, hat5⟩ := g3'.at
    rcases hv5 with rfl | ⟨hnil, a5, rfl⟩
    · refine ⟨_, cp5, rfl, h51, h52, ?_⟩
      refine .inr ⟨b5, o5, rfl, fun i hi => ?_⟩
      obtain ⟨cs, h6, h7, _, h8⟩ := hat5 i hi
      refine ⟨cs, h6, fun j v hv => ?_⟩
      have hb := h8 j v hv
      have e6 : cs = [.bool (oneM l).2[i]] := h6
      have : v = .bool (oneM l).2[i] := by
        rw [e6] at hv
        match j, hv with
        | 0, hv => simpa using hv.symm
        | j + 1, hv => simp at hv
      subst this
      exact Chg.ld (S := [σ.n]) ((Chg.refl _ _).put (.inl (by simp)) _) hb (by simpa using hoff _ _ _ hb)
    · exact ⟨a5, cp5, by rw [hnil]; rfl, by rw [hnil]; simp, h52, .inl hnil⟩
/-- The statement's walk. -/
theorem fields_walk {v0 : Value} {l : List Pc} {ifs : List UInt8} (h0 : RepL (α := Pc) σ.ld v0 l) (hi64 : ifs.length ≤ maxLen) :
    kCall Try.prog 6 [v0, .string (bs ifs)] σ fun v _ => v = .bool true := by
  obtain ⟨va, vc, rfl, _, _⟩ := pcs_at h0
  refine f6 ?_
  (try simp (maxSteps := 1000000) (dsimp := false) (disch := (first | omega | (simp only [okR]; done) | (simp only [sizeR] <;> omega) | fail)) only [↓preR, postR, ↓w_join, Nat.reduceEqDiff, Nat.reduceAdd, Nat.reduceSub, Nat.reduceMul, Int.reduceNeg, Nat.reduceLT, Int.reduceToNat, Nat.reduceLeDiff, Nat.sub_zero, F6])
  refine few_c h0 ?_
  cases hfew : fewB l
  · (try simp (maxSteps := 1000000) (dsimp := false) (disch := (first | omega | (simp only [okR]; done) | (simp only [sizeR] <;> omega) | fail)) only [↓preR, postR, ↓w_join, Nat.reduceEqDiff, Nat.reduceAdd, Nat.reduceSub, Nat.reduceMul, Int.reduceNeg, Nat.reduceLT, Int.reduceToNat, Nat.reduceLeDiff, Nat.sub_zero])
    refine awake_ok fun σ' _ => ?_
    (try simp (maxSteps := 1000000) (dsimp := false) (disch := (first | omega | (simp only [okR]; done) | (simp only [sizeR] <;> omega) | fail)) only [↓preR, postR, ↓w_join, Nat.reduceEqDiff, Nat.reduceAdd, Nat.reduceSub, Nat.reduceMul, Int.reduceNeg, Nat.reduceLT, Int.reduceToNat, Nat.reduceLeDiff, Nat.sub_zero])
  by_cases hifs : 100 < ifs.length
  · have h100 : (100 : Int) < ifs.length := by omega
    (try simp (maxSteps := 1000000) (dsimp := false) (disch := (first | omega | (simp only [okR]; done) | (simp only [sizeR] <;> omega) | fail)) only [↓preR, postR, ↓w_join, Nat.reduceEqDiff, Nat.reduceAdd, Nat.reduceSub, Nat.reduceMul, Int.reduceNeg, Nat.reduceLT, Int.reduceToNat, Nat.reduceLeDiff, Nat.sub_zero])
    refine awake_ok fun σ' _ => ?_
    (try simp (maxSteps := 1000000) (dsimp := false) (disch := (first | omega | (simp only [okR]; done) | (simp only [sizeR] <;> omega) | fail)) only [↓preR, postR, ↓w_join, Nat.reduceEqDiff, Nat.reduceAdd, Nat.reduceSub, Nat.reduceMul, Int.reduceNeg, Nat.reduceLT, Int.reduceToNat, Nat.reduceLeDiff, Nat.sub_zero])
  have h100 : ¬ (100 : Int) < ifs.length := by omega
  have hmany := few_many hfew
  have hlen := len_many l
  (simp (maxSteps := 1000000) (dsimp := false) (disch := (first | omega | (simp only [okR]; done) | (simp only [sizeR] <;> omega) | fail)) only [↓preR, postR, ↓w_join, Nat.reduceEqDiff, Nat.reduceAdd, Nat.reduceSub, Nat.reduceMul, Int.reduceNeg, Nat.reduceLT, Int.reduceToNat, Nat.reduceLeDiff, Nat.sub_zero])
  refine fields_e h0 (by omega) ?_
  intro σ1 v1 r1 c1
  have hm1 := rep_max r1
  have hfl : (fieldsM l ifs).length ≤ 1000000000 := by
    have := (SS.bd_fin (bd_fold ifs l SS.bd_zero)).2
    show (l.foldl (SS.piece ifs) SS.zero).fin.out.length ≤ _
    omega
  (try simp (maxSteps := 1000000) (dsimp := false) (disch := (first | omega | (simp only [okR]; done) | (simp only [sizeR] <;> omega) | fail)) only [↓preR, postR, ↓w_join, Nat.reduceEqDiff, Nat.reduceAdd, Nat.reduceSub, Nat.reduceMul, Int.reduceNeg, Nat.reduceLT, Int.reduceToNat, Nat.reduceLeDiff, Nat.sub_zero])
  refine plain_c r1 hfl ?_
  intro σ2 v2 r2 c2
  have k2 : Chg [] σ σ2 := c1.step c2 (by simp)
  (try simp (maxSteps := 1000000) (dsimp := false) (disch := (first | omega | (simp only [okR]; done) | (simp only [sizeR] <;> omega) | fail)) only [↓preR, postR, ↓w_join, Nat.reduceEqDiff, Nat.reduceAdd, Nat.reduceSub, Nat.reduceMul, Int.reduceNeg, Nat.reduceLT, Int.reduceToNat, Nat.reduceLeDiff, Nat.sub_zero])
  refine pieces_c (RepL.mono k2.le h0) (by omega) ?_
  intro σ3 v3 r3 c3
  have k3 : Chg [] σ σ3 := k2.step c3 (by simp)
  (try simp (maxSteps := 1000000) (dsimp := false) (disch := (first | omega | (simp only [okR]; done) | (simp only [sizeR] <;> omega) | fail)) only [↓preR, postR, ↓w_join, Nat.reduceEqDiff, Nat.reduceAdd, Nat.reduceSub, Nat.reduceMul, Int.reduceNeg, Nat.reduceLT, Int.reduceToNat, Nat.reduceLeDiff, Nat.sub_zero])
  refine rfields_e r3 (by omega) (by omega) ?_
  intro σ4 v4 r4 c4
  have k4 : Chg [] σ σ4 := k3.step c4 (by simp)
  (try simp (maxSteps := 1000000) (dsimp := false) (disch := (first | omega | (simp only [okR]; done) | (simp only [sizeR] <;> omega) | fail)) only [↓preR, postR, ↓w_join, Nat.reduceEqDiff, Nat.reduceAdd, Nat.reduceSub, Nat.reduceMul, Int.reduceNeg, Nat.reduceLT, Int.reduceToNat, Nat.reduceLeDiff, Nat.sub_zero])
  refine one_e (RepL.mono k4.le h0) (by omega) ?_
  intro σ5 w5 r5 c5
  obtain ⟨q1, q2⟩ := one_len l ([], []) rfl
  rw [← oneM_eq] at q1 q2
  dsimp only [List.length_nil] at q2
  have cw : cellsV w5 = [w5] := by obtain ⟨a, c, rfl, _⟩ := r5.val; rfl
  (simp (maxSteps := 1000000) (dsimp := false) (disch := (first | omega | (simp only [okR]; done) | (simp only [sizeR] <;> omega) | fail)) only [↓preR, postR, ↓w_join, Nat.reduceEqDiff, Nat.reduceAdd, Nat.reduceSub, Nat.reduceMul, Int.reduceNeg, Nat.reduceLT, Int.reduceToNat, Nat.reduceLeDiff, Nat.sub_zero, cw])
  generalize hz : σ5.new _ = σ6
  have c6 : Chg [] σ5 σ6 := by rw [← hz]; exact (Chg.refl _ _).new _
  have m6 : σ6.m σ5.n = some (.cells [.string (bs (oneM l).1), w5]) := by rw [← hz]; exact new_eq_
  refine plain_c (l := [oneM l]) (lit_rep m6 (RpL.one ⟨[.string (bs (oneM l).1)], [w5], rfl, ⟨rfl, ?_⟩, ⟨w5, rfl, RepL.mono c6.le r5⟩⟩) rfl (small _ (by simp))) (by simp) ?_
  · show (oneM l).1.length ≤ _
    unfold maxLen; omega
  intro σ7 v7 r7 c7
  have k47 : Chg [] σ4 σ7 := (c5.step c6 (by simp)).step c7 (by simp)
  have k27 : Chg [] σ2 σ7 := (c3.step c4 (by simp)).step k47 (by simp)
  have k7 : Chg [] σ σ7 := k4.step k47 (by simp)
  (try simp (maxSteps := 1000000) (dsimp := false) (disch := (first | omega | (simp only [okR]; done) | (simp only [sizeR] <;> omega) | fail)) only [↓preR, postR, ↓w_join, Nat.reduceEqDiff, Nat.reduceAdd, Nat.reduceSub, Nat.reduceMul, Int.reduceNeg, Nat.reduceLT, Int.reduceToNat, Nat.reduceLeDiff, Nat.sub_zero])
  refine all_c (RepL.mono k27.le r2) (RepL.mono k47.le r4) ?_
  intro σ8 c8
  rw [decide_eq_true rfl]
  obtain ⟨a8, cp8, rfl, _, hx | ⟨b8, o8, rfl, x8⟩⟩ := flds_at (RepL.mono c8.le r7)
  · cases hx
  obtain ⟨w8, _, g8, l8, e8, f8'⟩ := x8 0 (by simp)
  simp only [ldc, Nat.zero_mul, Nat.add_zero, List.getElem_cons_zero] at e8 f8' g8 l8
  have k8 : Chg [] σ σ8 := k7.step c8 (by simp)
  (simp (maxSteps := 1000000) (dsimp := false) (disch := (first | omega | (simp only [okR]; done) | (simp only [sizeR] <;> omega) | fail)) only [↓preR, postR, ↓w_join, Nat.reduceEqDiff, Nat.reduceAdd, Nat.reduceSub, Nat.reduceMul, Int.reduceNeg, Nat.reduceLT, Int.reduceToNat, Nat.reduceLeDiff, Nat.sub_zero, e8, f8'])
  refine pieces_c (RepL.mono k8.le h0) (by omega) ?_
  intro σ9 v9 r9 c9
  have keep : ∀ {σ' : AS}, Chg [] σ8 σ' → ldOb (σ'.c b8 o8) (σ'.m b8) o8 = some (.string (bs (oneM l).1)) ∧ ldOb (σ'.c b8 (o8 + 1)) (σ'.m b8) (o8 + 1) = some w8 := fun c => by
    rw [← ld_ob] at e8 f8' ⊢
    rw [← ld_ob]
    exact ⟨c.ld e8 (by simp), c.ld f8' (by simp)⟩
  obtain ⟨e9, f9⟩ := keep c9
  (simp (maxSteps := 1000000) (dsimp := false) (disch := (first | omega | (simp only [okR]; done) | (simp only [sizeR] <;> omega) | fail)) only [↓preR, postR, ↓w_join, Nat.reduceEqDiff, Nat.reduceAdd, Nat.reduceSub, Nat.reduceMul, Int.reduceNeg, Nat.reduceLT, Int.reduceToNat, Nat.reduceLeDiff, Nat.sub_zero, e9, f9])
  refine rone_e r9 (by omega) ?_
  intro σ11 w11 r11 c11
  have k811 : Chg [] σ8 σ11 := c9.step c11 (by simp)
  obtain ⟨e11, f11⟩ := keep k811
  (simp (maxSteps := 1000000) (dsimp := false) (disch := (first | omega | (simp only [okR]; done) | (simp only [sizeR] <;> omega) | fail)) only [↓preR, postR, ↓w_join, Nat.reduceEqDiff, Nat.reduceAdd, Nat.reduceSub, Nat.reduceMul, Int.reduceNeg, Nat.reduceLT, Int.reduceToNat, Nat.reduceLeDiff, Nat.sub_zero, e11, f11])
  refine same_c (RepL.mono k811.le g8) r11 (by omega) ?_
  intro σ10 c10
  rw [decide_eq_true rfl]
  (try simp (maxSteps := 1000000) (dsimp := false) (disch := (first | omega | (simp only [okR]; done) | (simp only [sizeR] <;> omega) | fail)) only [↓preR, postR, ↓w_join, Nat.reduceEqDiff, Nat.reduceAdd, Nat.reduceSub, Nat.reduceMul, Int.reduceNeg, Nat.reduceLT, Int.reduceToNat, Nat.reduceLeDiff, Nat.sub_zero])
  refine awake_ok fun σ' _ => ?_
  (try simp (maxSteps := 1000000) (dsimp := false) (disch := (first | omega | (simp only [okR]; done) | (simp only [sizeR] <;> omega) | fail)) only [↓preR, postR, ↓w_join, Nat.reduceEqDiff, Nat.reduceAdd, Nat.reduceSub, Nat.reduceMul, Int.reduceNeg, Nat.reduceLT, Int.reduceToNat, Nat.reduceLeDiff, Nat.sub_zero])
theorem fields_law {v0 v1 : Value} (A0 : OV σ.c (shOf Try.prog 8 22) v0) (A1 : OV σ.c (shOf Try.prog 8 9) v1) :
    kCall Try.prog 6 [v0, v1] σ fun v _ => v = .bool true := by
  obtain ⟨l, hl⟩ := pcs_arg A0
  obtain ⟨ifs, rfl, h64⟩ := str_arg A1
  exact fields_walk (hl.mono c_le_ld) h64
end
end Go.Proofs.Ytaenpaeigoeebaa
