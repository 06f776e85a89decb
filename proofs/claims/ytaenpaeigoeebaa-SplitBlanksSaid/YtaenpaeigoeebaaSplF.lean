/- What split.Fields answers. Conditions: as each theorem says. -/
import Derived.Test.YtaenpaeigoeebaaSplM
namespace Go.Proofs.Ytaenpaeigoeebaa
open E Go.Lib
set_option linter.unusedVariables false
set_option linter.unusedSimpArgs false
set_option maxHeartbeats 1000000
set_option maxRecDepth 20000

namespace SS
variable {ifs : List UInt8} {s : SS} {c : UInt8}
theorem sign_not (h : c ∉ ifs) : sign ifs s c = s.there.add [c] false := by
  unfold sign; rw [if_neg h]; rfl
theorem sign_none (h : c ∈ ifs) (hb : c = 32 ∨ c = 9 ∨ c = 10) (hs : s.now.isSome = false) : sign ifs s c = s := by
  unfold sign; rw [if_pos h, if_pos hb, hs]; rfl
theorem sign_blank (h : c ∈ ifs) (hb : c = 32 ∨ c = 9 ∨ c = 10) (hs : s.now.isSome = true) : sign ifs s c = s.ends.setM true := by
  unfold sign; rw [if_pos h, if_pos hb, hs]; rfl
theorem sign_mark (h : c ∈ ifs) (hb : ¬ (c = 32 ∨ c = 9 ∨ c = 10)) (hm : s.mark = true) : sign ifs s c = s.setM false := by
  unfold sign; rw [if_pos h, if_neg hb, hm]; rfl
theorem sign_hard (h : c ∈ ifs) (hb : ¬ (c = 32 ∨ c = 9 ∨ c = 10)) (hm : s.mark = false) : sign ifs s c = s.there.ends := by
  unfold sign; rw [if_pos h, if_neg hb, hm]; rfl
end SS
section
variable {σ σ' : AS} {k : Value → AS → Prop}
theorem u8_of (c : UInt8) : ((c.toNat : Int)).toNat.toUInt8 = c := by simp
theorem ixb_c {s : List UInt8} {c : UInt8} (hk : k (.int .i64 (indexByte s c)) σ) : kCall Try.prog 23 [.string (bs s), .int .u8 c.toNat] σ k := by
  refine f23 ?_
  (try simp (maxSteps := 1000000) (dsimp := false) (disch := (first | omega | (simp only [okR]; done) | (simp only [sizeR] <;> omega) | fail)) only [↓preR, postR, ↓w_join, Nat.reduceEqDiff, Nat.reduceAdd, Nat.reduceSub, Nat.reduceMul, Int.reduceNeg, Nat.reduceLT, Int.reduceToNat, Nat.reduceLeDiff, Nat.sub_zero, F23])
  refine f29 ?_
  (try simp (maxSteps := 1000000) (dsimp := false) (disch := (first | omega | (simp only [okR]; done) | (simp only [sizeR] <;> omega) | fail)) only [↓preR, postR, ↓w_join, Nat.reduceEqDiff, Nat.reduceAdd, Nat.reduceSub, Nat.reduceMul, Int.reduceNeg, Nat.reduceLT, Int.reduceToNat, Nat.reduceLeDiff, Nat.sub_zero, F29])
  refine idx_by (by kernel_rfl) (by kernel_rfl) ?_
  rw [u8_of]
  (try simp (maxSteps := 1000000) (dsimp := false) (disch := (first | omega | (simp only [okR]; done) | (simp only [sizeR] <;> omega) | fail)) only [↓preR, postR, ↓w_join, Nat.reduceEqDiff, Nat.reduceAdd, Nat.reduceSub, Nat.reduceMul, Int.reduceNeg, Nat.reduceLT, Int.reduceToNat, Nat.reduceLeDiff, Nat.sub_zero])
  exact hk
theorem keepE {e : Nat} {o : Ob} {F F' : List Nat} (hm : σ.m e = some o) (he : e ∉ F) (c : Chg F σ σ') (g : ∀ g, g ∈ F' → g ∈ F ∨ σ.n ≤ g) : σ'.m e = some o ∧ e ∉ F' :=
  ⟨(c.m e (σ.lt hm) he).trans hm, fun h => by
    rcases g e h with h | h
    · exact he h
    · have := σ.lt hm; omega⟩
variable {σ0 : AS} {ob nb mb : Nat} {F : List Nat} {nv : Value} {s : SS}
theorem SI.outb (h : SI σ0 σ ob nb mb F nv s) : ∃ ov, σ.m ob = some (.cells [ov]) ∧ RepL (α := Fld) (sans σ (List.range σ0.n)) ov s.out := by
  obtain ⟨ov, M, hF, h1, h2, h3, h4, _, _, _, _, h9, _⟩ := h
  refine ⟨ov, h1, (h4.more (fun g hg => .inl (List.mem_append_left _ hg))).repX (fun g hg => ?_)⟩
  have := h9 g (by rw [hF]; simp [hg])
  simp only [List.mem_range]
  omega
theorem SI.nil (h : SI σ0 σ ob nb mb F nv s) : (s.now = none ∧ nv = .pointer none) ∨ (∃ x p, s.now = some x ∧ nv = .pointer (some ⟨p, 0, none⟩)) := by
  obtain ⟨ov, M, hF, h1, h2, h3, h4, h5, _⟩ := h
  cases hs : s.now with
  | none => rw [hs] at h5; exact .inl ⟨rfl, h5.1⟩
  | some x => rw [hs] at h5; obtain ⟨p, e, _⟩ := h5; exact .inr ⟨x, p, rfl, e⟩
theorem SI.zero (σ : AS) : SI σ ((((σ.new (.cells [.slice none 0 0])).new (.cells [.pointer none])).new (.cells [.bool false])).put (σ.n + 1 + 1) (.cells [.bool false])) σ.n (σ.new (.cells [.slice none 0 0])).n ((σ.new (.cells [.slice none 0 0])).new (.cells [.pointer none])).n
    [σ.n, (σ.new (.cells [.slice none 0 0])).n, ((σ.new (.cells [.slice none 0 0])).new (.cells [.pointer none])).n] (.pointer none) SS.zero := by
  refine ⟨.slice none 0 0, [], rfl, ?_, ?_, ?_, OwnR.nil, ⟨rfl, rfl⟩, by simp only [new_n]; omega, by simp [ownL], by simp, by simp only [new_n]; simp; omega, ?_⟩
  · (try simp (maxSteps := 1000000) (dsimp := false) (disch := (first | omega | (simp only [okR]; done) | (simp only [sizeR] <;> omega) | fail)) only [↓preR, postR, ↓w_join, Nat.reduceEqDiff, Nat.reduceAdd, Nat.reduceSub, Nat.reduceMul, Int.reduceNeg, Nat.reduceLT, Int.reduceToNat, Nat.reduceLeDiff, Nat.sub_zero])
  · (try simp (maxSteps := 1000000) (dsimp := false) (disch := (first | omega | (simp only [okR]; done) | (simp only [sizeR] <;> omega) | fail)) only [↓preR, postR, ↓w_join, Nat.reduceEqDiff, Nat.reduceAdd, Nat.reduceSub, Nat.reduceMul, Int.reduceNeg, Nat.reduceLT, Int.reduceToNat, Nat.reduceLeDiff, Nat.sub_zero])
  · (try simp (maxSteps := 1000000) (dsimp := false) (disch := (first | omega | (simp only [okR]; done) | (simp only [sizeR] <;> omega) | fail)) only [↓preR, postR, ↓w_join, Nat.reduceEqDiff, Nat.reduceAdd, Nat.reduceSub, Nat.reduceMul, Int.reduceNeg, Nat.reduceLT, Int.reduceToNat, Nat.reduceLeDiff, Nat.sub_zero]); rfl
  · exact ((((Chg.refl _ _).new _).new _).new _).put (.inr (by omega)) _
theorem SI.below (h : SI σ0 σ ob nb mb F nv s) : ∀ g, g ∈ F → g < σ.n := by
  obtain ⟨ov, M, hF, h1, h2, h3, h4, h5, _⟩ := h
  intro g hg
  rw [hF] at hg
  simp only [List.mem_append, List.mem_cons, List.not_mem_nil, or_false] at hg
  rcases hg with ((rfl | rfl | rfl) | hg) | hg
  · exact σ.lt h1
  · exact σ.lt h2
  · exact σ.lt h3
  · exact h4.lt hg
  · cases hs : s.now with
    | none => rw [hs] at h5; rw [h5.2] at hg; simp at hg
    | some x => rw [hs] at h5; obtain ⟨p, _, hp⟩ := h5; exact hp.below g hg
theorem SI.mem (h : SI σ0 σ ob nb mb F nv s) : ob ∈ F ∧ nb ∈ F ∧ mb ∈ F := by
  obtain ⟨ov, M, hF, _⟩ := h
  rw [hF]; simp
/-- What a walk asks for a cell. -/
abbrev ldc (σ : AS) (b o : Nat) : Option Value := ldOb (σ.c b o) (σ.m b) o
/-- A list of pieces, cell by cell. -/
theorem pcs_at {v : Value} {l : List Pc} (h : RepL (α := Pc) σ.ld v l) : ∃ a cap, v = .slice a l.length cap ∧ l.length ≤ cap ∧ (l = [] ∨ ∃ b o, a = some ⟨b, o, none⟩ ∧ ∀ i (hi : i < l.length), l[i].1.length ≤ maxLen ∧
    ldsS σ b (o + i * 4) 4 = some [.string (bs l[i].1), .bool l[i].2.1, .bool l[i].2.2.1, .bool l[i].2.2.2] ∧
    ldc σ b (o + i * 4) = some (.string (bs l[i].1)) ∧ ldc σ b (o + i * 4 + 1) = some (.bool l[i].2.1) ∧ ldc σ b (o + i * 4 + 1 + 1) = some (.bool l[i].2.2.1) ∧ ldc σ b (o + i * 4 + 1 + 1 + 1) = some (.bool l[i].2.2.2)) := by
  simp only [ldc, ← ld_ob]
  obtain ⟨b, o, cap, hv, h1, h2, hat⟩ := h.at
  rcases hv with rfl | ⟨rfl, a, rfl⟩
  · refine ⟨_, cap, rfl, h1, .inr ⟨b, o, rfl, fun i hi => ?_⟩⟩
    obtain ⟨cs, hcs, _, hlds, hc⟩ := hat i hi
    obtain ⟨x, _, rfl, ⟨rfl, ht⟩, y, _, rfl, rfl, z, _, rfl, rfl, rfl⟩ := hcs
    exact ⟨ht, hlds, hc 0 _ rfl, hc 1 _ rfl, hc 2 _ rfl, hc 3 _ rfl⟩
  · exact ⟨a, cap, rfl, h1, .inl rfl⟩
theorem fields_f {v0 : Value} {l : List Pc} {ifs : List UInt8} (h0 : RepL (α := Pc) σ.ld v0 l) (hl : many l ≤ 1000000) (hk : ∀ σ' v', RepL (α := Fld) (sans σ' (List.range σ.n)) v' (fieldsM l ifs) → Chg [] σ σ' → k v' σ') :
    kCall Try.prog 11 [v0, .string (bs ifs)] σ k := by
  have hlen : l.length ≤ many l := by
    clear h0 hl hk
    induction l with
    | nil => simp [many]
    | cons p l ih =>
      have e : many (p :: l) = (p.1.length + 1) + many l := by simp [many]
      rw [e, List.length_cons]; omega
  have bdI : ∀ i, ((l.take i).foldl (SS.piece ifs) SS.zero).Bd (many (l.take i)) := fun i => (bd_fold ifs _ SS.bd_zero).le (by omega)
  have mI : ∀ i (hi : i < l.length), many (l.take i) + (l[i].1.length + 1) ≤ 1000000 := by
    intro i hi
    have e : many l = many (l.take i) + (many [l[i]] + many (l.drop (i + 1))) := by
      rw [← many_app, ← many_app, List.singleton_append, ← List.drop_eq_getElem_cons hi, List.take_append_drop]
    have : many [l[i]] = l[i].1.length + 1 := by simp [many]
    omega
  obtain ⟨va, vc, rfl, _⟩ := pcs_at h0
  refine f11 ?_
  have hi0 := SI.zero σ
  (try simp (maxSteps := 1000000) (dsimp := false) (disch := (first | omega | (simp only [okR]; done) | (simp only [sizeR] <;> omega) | fail)) only [↓preR, postR, ↓w_join, Nat.reduceEqDiff, Nat.reduceAdd, Nat.reduceSub, Nat.reduceMul, Int.reduceNeg, Nat.reduceLT, Int.reduceToNat, Nat.reduceLeDiff, Nat.sub_zero, F11])
  generalize AS.put _ _ _ = σ1 at hi0 ⊢
  have hob : σ.n < σ.n + 1 := by omega
  generalize hx2 : ((σ.new (.cells [.slice none 0 0])).new (.cells [.pointer none])).n = mb at hi0 ⊢
  generalize hx1 : (σ.new (.cells [.slice none 0 0])).n = nb at hi0 ⊢
  clear hx1 hx2
  refine loop_by (α := Nat × AS × List Nat × Value) (fun x => [.int .i64 x.1]) (fun x => x.2.1) (fun x => x.1 ≤ l.length ∧ SI σ x.2.1 σ.n nb mb x.2.2.1 x.2.2.2 ((l.take x.1).foldl (SS.piece ifs) SS.zero)) (fun x => l.length - x.1) (0, σ1, _, _) ⟨by simp, hi0⟩ rfl rfl ?_
  rintro ⟨i, σ2, F2, nv2⟩ ⟨hi, h2⟩ again hag
  dsimp only at hi h2 hag ⊢
  have bd2 := bdI i
  by_cases hlt : i < l.length
  · have m2 := mI i hlt
    have nxt : ∀ s', s' = SS.piece ifs ((l.take i).foldl (SS.piece ifs) SS.zero) l[i] → ∀ σ' F' nv', SI σ σ' σ.n nb mb F' nv' s' → again [.int .i64 ((i : Int) + 1)] σ' := by
      intro s' hs' σ' F' nv' h'
      have := hag (i + 1, σ', F', nv') ⟨by omega, by
        rw [List.take_succ_eq_append_getElem hlt, List.foldl_append, List.foldl_cons, List.foldl_nil, ← hs']
        exact h'⟩ (by simp; omega)
      simpa using this
    generalize (l.take i).foldl (SS.piece ifs) SS.zero = s2 at h2 bd2 nxt
    generalize many (l.take i) = n2 at bd2 m2
    obtain ⟨_, _, hv, _, hat⟩ := pcs_at (RepL.mono h2.ch.le h0)
    injection hv with hv1 _ hv2
    subst hv1
    rcases hat with rfl | ⟨b, o, rfl, hat⟩
    · simp at hlt
    obtain ⟨ht, hlds, e0, e1, e2, e3⟩ := hat i hlt
    clear hat
    generalize l[i] = pc at ht hlds nxt m2 e0 e1 e2 e3
    obtain ⟨t, q, sp, br⟩ := pc
    dsimp only [ldc] at ht hlds m2 e0 e1 e2 e3
    have hl64 : (l.length : Int) ≤ 1000000 := by omega
    (simp (maxSteps := 1000000) (dsimp := false) (disch := (first | omega | (simp only [okR]; done) | (simp only [sizeR] <;> omega) | fail)) only [↓preR, postR, ↓w_join, Nat.reduceEqDiff, Nat.reduceAdd, Nat.reduceSub, Nat.reduceMul, Int.reduceNeg, Nat.reduceLT, Int.reduceToNat, Nat.reduceLeDiff, Nat.sub_zero, e0, e1, e2, e3])
    generalize hz : AS.put _ σ2.n _ = σ3
    have c3 : Chg [] σ2 σ3 := by rw [← hz]; exact ((Chg.refl _ σ2).new _).put (.inr (by omega)) _
    have hE : σ3.m σ2.n = some (.cells [.string (bs t), .bool q, .bool sp, .bool br]) := by rw [← hz]; (try simp (maxSteps := 1000000) (dsimp := false) (disch := (first | omega | (simp only [okR]; done) | (simp only [sizeR] <;> omega) | fail)) only [↓preR, postR, ↓w_join, Nat.reduceEqDiff, Nat.reduceAdd, Nat.reduceSub, Nat.reduceMul, Int.reduceNeg, Nat.reduceLT, Int.reduceToNat, Nat.reduceLeDiff, Nat.sub_zero])
    have h3 := h2.gar c3
    have heF : σ2.n ∉ F2 := fun h => Nat.lt_irrefl _ (h2.below _ h)
    have bd3 := bd2
    clear hz e0 e1 e2 e3 hlds
    generalize σ2.n = e at hE heF ⊢
    clear h2 c3 bd2
    cases br
    rotate_left
    · -- a border
      rcases h3.nil with ⟨hs, rfl⟩ | ⟨x, p, hs, rfl⟩
      · (try simp (maxSteps := 1000000) (dsimp := false) (disch := (first | omega | (simp only [okR]; done) | (simp only [sizeR] <;> omega) | fail)) only [↓preR, postR, ↓w_join, Nat.reduceEqDiff, Nat.reduceAdd, Nat.reduceSub, Nat.reduceMul, Int.reduceNeg, Nat.reduceLT, Int.reduceToNat, Nat.reduceLeDiff, Nat.sub_zero, hE, h3.nowb, h3.markb])
        refine nxt _ ?_ _ F2 _ (h3.setM false).1
        simp [SS.piece, SS.fin, hs]
      · (simp (maxSteps := 1000000) (dsimp := false) (disch := (first | omega | (simp only [okR]; done) | (simp only [sizeR] <;> omega) | fail)) only [↓preR, postR, ↓w_join, Nat.reduceEqDiff, Nat.reduceAdd, Nat.reduceSub, Nat.reduceMul, Int.reduceNeg, Nat.reduceLT, Int.reduceToNat, Nat.reduceLeDiff, Nat.sub_zero, hE, h3.nowb, h3.markb])
        refine callv_by (by kernel_rfl) (ends_i h3 (by rw [hs]; rfl) bd3 (by omega) ?_)
        intro σ4 F4 h4 c4 g4
        (try simp (maxSteps := 1000000) (dsimp := false) (disch := (first | omega | (simp only [okR]; done) | (simp only [sizeR] <;> omega) | fail)) only [↓preR, postR, ↓w_join, Nat.reduceEqDiff, Nat.reduceAdd, Nat.reduceSub, Nat.reduceMul, Int.reduceNeg, Nat.reduceLT, Int.reduceToNat, Nat.reduceLeDiff, Nat.sub_zero, h4.markb])
        refine nxt _ ?_ _ F4 _ (h4.setM false).1
        simp [SS.piece, SS.fin, hs]
    cases q
    rotate_left
    · (simp (maxSteps := 1000000) (dsimp := false) (disch := (first | omega | (simp only [okR]; done) | (simp only [sizeR] <;> omega) | fail)) only [↓preR, postR, ↓w_join, Nat.reduceEqDiff, Nat.reduceAdd, Nat.reduceSub, Nat.reduceMul, Int.reduceNeg, Nat.reduceLT, Int.reduceToNat, Nat.reduceLeDiff, Nat.sub_zero, hE])
      refine callv_by (by kernel_rfl) (there_i h3 ?_)
      intro σ4 F4 p h4 c4 g4
      obtain ⟨hE4, he4⟩ := keepE hE heF c4 g4
      (try simp (maxSteps := 1000000) (dsimp := false) (disch := (first | omega | (simp only [okR]; done) | (simp only [sizeR] <;> omega) | fail)) only [↓preR, postR, ↓w_join, Nat.reduceEqDiff, Nat.reduceAdd, Nat.reduceSub, Nat.reduceMul, Int.reduceNeg, Nat.reduceLT, Int.reduceToNat, Nat.reduceLeDiff, Nat.sub_zero, hE4])
      refine add_i true h4 rfl rfl (SS.bd_there bd3) (by omega) ?_
      intro σ5 F5 h5 c5 g5
      (try simp (maxSteps := 1000000) (dsimp := false) (disch := (first | omega | (simp only [okR]; done) | (simp only [sizeR] <;> omega) | fail)) only [↓preR, postR, ↓w_join, Nat.reduceEqDiff, Nat.reduceAdd, Nat.reduceSub, Nat.reduceMul, Int.reduceNeg, Nat.reduceLT, Int.reduceToNat, Nat.reduceLeDiff, Nat.sub_zero])
      refine nxt _ ?_ _ F5 _ h5
      simp [SS.piece]
      rfl
    cases sp
    · by_cases htn : t = []
      · subst htn
        (try simp (maxSteps := 1000000) (dsimp := false) (disch := (first | omega | (simp only [okR]; done) | (simp only [sizeR] <;> omega) | fail)) only [↓preR, postR, ↓w_join, Nat.reduceEqDiff, Nat.reduceAdd, Nat.reduceSub, Nat.reduceMul, Int.reduceNeg, Nat.reduceLT, Int.reduceToNat, Nat.reduceLeDiff, Nat.sub_zero, hE])
        refine nxt _ ?_ _ F2 _ h3
        simp [SS.piece]
      · (simp (maxSteps := 1000000) (dsimp := false) (disch := (first | omega | (simp only [okR]; done) | (simp only [sizeR] <;> omega) | fail)) only [↓preR, postR, ↓w_join, Nat.reduceEqDiff, Nat.reduceAdd, Nat.reduceSub, Nat.reduceMul, Int.reduceNeg, Nat.reduceLT, Int.reduceToNat, Nat.reduceLeDiff, Nat.sub_zero, hE])
        refine callv_by (by kernel_rfl) (there_i h3 ?_)
        intro σ4 F4 p h4 c4 g4
        obtain ⟨hE4, he4⟩ := keepE hE heF c4 g4
        (try simp (maxSteps := 1000000) (dsimp := false) (disch := (first | omega | (simp only [okR]; done) | (simp only [sizeR] <;> omega) | fail)) only [↓preR, postR, ↓w_join, Nat.reduceEqDiff, Nat.reduceAdd, Nat.reduceSub, Nat.reduceMul, Int.reduceNeg, Nat.reduceLT, Int.reduceToNat, Nat.reduceLeDiff, Nat.sub_zero, hE4])
        refine add_i false h4 rfl rfl (SS.bd_there bd3) (by omega) ?_
        intro σ5 F5 h5 c5 g5
        (try simp (maxSteps := 1000000) (dsimp := false) (disch := (first | omega | (simp only [okR]; done) | (simp only [sizeR] <;> omega) | fail)) only [↓preR, postR, ↓w_join, Nat.reduceEqDiff, Nat.reduceAdd, Nat.reduceSub, Nat.reduceMul, Int.reduceNeg, Nat.reduceLT, Int.reduceToNat, Nat.reduceLeDiff, Nat.sub_zero])
        refine nxt _ ?_ _ F5 _ h5
        simp [SS.piece, htn]
        rfl
    · (simp (maxSteps := 1000000) (dsimp := false) (disch := (first | omega | (simp only [okR]; done) | (simp only [sizeR] <;> omega) | fail)) only [↓preR, postR, ↓w_join, Nat.reduceEqDiff, Nat.reduceAdd, Nat.reduceSub, Nat.reduceMul, Int.reduceNeg, Nat.reduceLT, Int.reduceToNat, Nat.reduceLeDiff, Nat.sub_zero, hE])
      refine loop_by (α := Nat × AS × List Nat × Value) (fun x => [.int .i64 x.1]) (fun x => x.2.1) (fun x => x.1 ≤ t.length ∧ SI σ x.2.1 σ.n nb mb x.2.2.1 x.2.2.2 ((t.take x.1).foldl (SS.sign ifs) s2) ∧ x.2.1.m e = some (.cells [.string (bs t), .bool false, .bool true, .bool false]) ∧ e ∉ x.2.2.1) (fun x => t.length - x.1) (0, σ3, F2, nv2) ⟨by simp, h3, hE, heF⟩ rfl rfl ?_
      rintro ⟨j, σ4, F4, nv4⟩ ⟨hj, h4, hE4, he4⟩ again2 hag2
      dsimp only at hj h4 hE4 he4 hag2 ⊢
      have bd4 := SS.bd_signs ifs (t.take j) bd3
      have ht64 : (t.length : Int) ≤ 1000000 := by omega
      by_cases hjt : j < t.length
      · have ml : (t.take j).length = j := by rw [List.length_take]; omega
        rw [ml] at bd4
        have nxt2 : ∀ s', s' = SS.sign ifs ((t.take j).foldl (SS.sign ifs) s2) t[j] → ∀ σ' F' nv', SI σ σ' σ.n nb mb F' nv' s' → σ'.m e = some (.cells [.string (bs t), .bool false, .bool true, .bool false]) → e ∉ F' → again2 [.int .i64 ((j : Int) + 1)] σ' := by
          intro s' hs' σ' F' nv' h' h1 h2
          have := hag2 (j + 1, σ', F', nv') ⟨by omega, by
            rw [List.take_succ_eq_append_getElem hjt, List.foldl_append, List.foldl_cons, List.foldl_nil, ← hs']
            exact h', h1, h2⟩ (by simp; omega)
          simpa using this
        have hgc : t[j]?.getD 0 = t[j] := by rw [List.getElem?_eq_getElem hjt]; rfl
        have hsub : (t.drop j).take 1 = [t[j]] := by rw [List.drop_eq_getElem_cons hjt]; rfl
        generalize (t.take j).foldl (SS.sign ifs) s2 = s4 at h4 bd4 nxt2
        generalize t[j] = c at nxt2 hgc hsub
        have x32 : (c.toNat : Int) = 32 ↔ c = 32 := by rw [← UInt8.toNat_inj]; show _ ↔ c.toNat = 32; omega
        have x9 : (c.toNat : Int) = 9 ↔ c = 9 := by rw [← UInt8.toNat_inj]; show _ ↔ c.toNat = 9; omega
        have x10 : (c.toNat : Int) = 10 ↔ c = 10 := by rw [← UInt8.toNat_inj]; show _ ↔ c.toNat = 10; omega
        have xin := idx_neg ifs c
        have jb : j + 1 - j = 1 := by omega
        (simp (maxSteps := 1000000) (dsimp := false) (disch := (first | omega | (simp only [okR]; done) | (simp only [sizeR] <;> omega) | fail)) only [↓preR, postR, ↓w_join, Nat.reduceEqDiff, Nat.reduceAdd, Nat.reduceSub, Nat.reduceMul, Int.reduceNeg, Nat.reduceLT, Int.reduceToNat, Nat.reduceLeDiff, Nat.sub_zero, hE4, hgc])
        refine ixb_c ?_
        by_cases hin : c ∈ ifs
        · have hi1 : 0 ≤ indexByte ifs c := xin.2 hin
          by_cases hbl : c = 32 ∨ c = 9 ∨ c = 10
          · rcases h4.nil with ⟨hs, rfl⟩ | ⟨x, p, hs, rfl⟩
            · have fin := nxt2 s4 (SS.sign_none hin hbl (by rw [hs]; rfl)).symm σ4 F4 _ h4 hE4 he4
              by_cases y32 : (c.toNat : Int) = 32
              · (try simp (maxSteps := 1000000) (dsimp := false) (disch := (first | omega | (simp only [okR]; done) | (simp only [sizeR] <;> omega) | fail)) only [↓preR, postR, ↓w_join, Nat.reduceEqDiff, Nat.reduceAdd, Nat.reduceSub, Nat.reduceMul, Int.reduceNeg, Nat.reduceLT, Int.reduceToNat, Nat.reduceLeDiff, Nat.sub_zero, h4.nowb]); exact fin
              by_cases y9 : (c.toNat : Int) = 9
              · (try simp (maxSteps := 1000000) (dsimp := false) (disch := (first | omega | (simp only [okR]; done) | (simp only [sizeR] <;> omega) | fail)) only [↓preR, postR, ↓w_join, Nat.reduceEqDiff, Nat.reduceAdd, Nat.reduceSub, Nat.reduceMul, Int.reduceNeg, Nat.reduceLT, Int.reduceToNat, Nat.reduceLeDiff, Nat.sub_zero, h4.nowb]); exact fin
              have y10 : (c.toNat : Int) = 10 := by
                rcases hbl with h | h | h
                · exact absurd (x32.2 h) y32
                · exact absurd (x9.2 h) y9
                · exact x10.2 h
              (try simp (maxSteps := 1000000) (dsimp := false) (disch := (first | omega | (simp only [okR]; done) | (simp only [sizeR] <;> omega) | fail)) only [↓preR, postR, ↓w_join, Nat.reduceEqDiff, Nat.reduceAdd, Nat.reduceSub, Nat.reduceMul, Int.reduceNeg, Nat.reduceLT, Int.reduceToNat, Nat.reduceLeDiff, Nat.sub_zero, h4.nowb]); exact fin
            · have fin : ∀ {K : Value → AS → Prop}, (∀ σ5 F5, SI σ σ5 σ.n nb mb F5 (.pointer none) s4.ends → (∀ σ' F' nv', SI σ σ' σ.n nb mb F' nv' (s4.ends.setM true) → Chg F5 σ5 σ' → F' = F5 → again2 [.int .i64 ((j : Int) + 1)] σ') → K undef σ5) → kCall Try.prog 20 [.pointer (some ⟨σ.n, 0, none⟩), .pointer (some ⟨nb, 0, none⟩)] σ4 K := by
                intro K hK
                refine ends_i h4 (by rw [hs]; rfl) bd4 (by omega) ?_
                intro σ5 F5 h5 c5 g5
                obtain ⟨hE5, he5⟩ := keepE hE4 he4 c5 g5
                refine hK σ5 F5 h5 ?_
                rintro σ6 F6 nv6 h6 c6 rfl
                obtain ⟨hE6, he6⟩ := keepE hE5 he5 c6 (fun g hg => .inl hg)
                exact nxt2 _ (SS.sign_blank hin hbl (by rw [hs]; rfl)).symm _ F6 _ h6 hE6 he6
              by_cases y32 : (c.toNat : Int) = 32
              · (simp (maxSteps := 1000000) (dsimp := false) (disch := (first | omega | (simp only [okR]; done) | (simp only [sizeR] <;> omega) | fail)) only [↓preR, postR, ↓w_join, Nat.reduceEqDiff, Nat.reduceAdd, Nat.reduceSub, Nat.reduceMul, Int.reduceNeg, Nat.reduceLT, Int.reduceToNat, Nat.reduceLeDiff, Nat.sub_zero, h4.nowb])
                refine callv_by (by kernel_rfl) (fin fun σ5 F5 h5 hx => ?_)
                obtain ⟨h6, c6⟩ := h5.setM true
                (try simp (maxSteps := 1000000) (dsimp := false) (disch := (first | omega | (simp only [okR]; done) | (simp only [sizeR] <;> omega) | fail)) only [↓preR, postR, ↓w_join, Nat.reduceEqDiff, Nat.reduceAdd, Nat.reduceSub, Nat.reduceMul, Int.reduceNeg, Nat.reduceLT, Int.reduceToNat, Nat.reduceLeDiff, Nat.sub_zero, h5.markb])
                exact hx _ F5 _ h6 c6 rfl
              by_cases y9 : (c.toNat : Int) = 9
              · (simp (maxSteps := 1000000) (dsimp := false) (disch := (first | omega | (simp only [okR]; done) | (simp only [sizeR] <;> omega) | fail)) only [↓preR, postR, ↓w_join, Nat.reduceEqDiff, Nat.reduceAdd, Nat.reduceSub, Nat.reduceMul, Int.reduceNeg, Nat.reduceLT, Int.reduceToNat, Nat.reduceLeDiff, Nat.sub_zero, h4.nowb])
                refine callv_by (by kernel_rfl) (fin fun σ5 F5 h5 hx => ?_)
                obtain ⟨h6, c6⟩ := h5.setM true
                (try simp (maxSteps := 1000000) (dsimp := false) (disch := (first | omega | (simp only [okR]; done) | (simp only [sizeR] <;> omega) | fail)) only [↓preR, postR, ↓w_join, Nat.reduceEqDiff, Nat.reduceAdd, Nat.reduceSub, Nat.reduceMul, Int.reduceNeg, Nat.reduceLT, Int.reduceToNat, Nat.reduceLeDiff, Nat.sub_zero, h5.markb])
                exact hx _ F5 _ h6 c6 rfl
              have y10 : (c.toNat : Int) = 10 := by
                rcases hbl with h | h | h
                · exact absurd (x32.2 h) y32
                · exact absurd (x9.2 h) y9
                · exact x10.2 h
              (simp (maxSteps := 1000000) (dsimp := false) (disch := (first | omega | (simp only [okR]; done) | (simp only [sizeR] <;> omega) | fail)) only [↓preR, postR, ↓w_join, Nat.reduceEqDiff, Nat.reduceAdd, Nat.reduceSub, Nat.reduceMul, Int.reduceNeg, Nat.reduceLT, Int.reduceToNat, Nat.reduceLeDiff, Nat.sub_zero, h4.nowb])
              refine callv_by (by kernel_rfl) (fin fun σ5 F5 h5 hx => ?_)
              obtain ⟨h6, c6⟩ := h5.setM true
              (try simp (maxSteps := 1000000) (dsimp := false) (disch := (first | omega | (simp only [okR]; done) | (simp only [sizeR] <;> omega) | fail)) only [↓preR, postR, ↓w_join, Nat.reduceEqDiff, Nat.reduceAdd, Nat.reduceSub, Nat.reduceMul, Int.reduceNeg, Nat.reduceLT, Int.reduceToNat, Nat.reduceLeDiff, Nat.sub_zero, h5.markb])
              exact hx _ F5 _ h6 c6 rfl
          · have y32 : ¬ (c.toNat : Int) = 32 := fun h => hbl (.inl (x32.1 h))
            have y9 : ¬ (c.toNat : Int) = 9 := fun h => hbl (.inr (.inl (x9.1 h)))
            have y10 : ¬ (c.toNat : Int) = 10 := fun h => hbl (.inr (.inr (x10.1 h)))
            cases hmk : s4.mark
            · have hmb := h4.markb
              rw [hmk] at hmb
              (simp (maxSteps := 1000000) (dsimp := false) (disch := (first | omega | (simp only [okR]; done) | (simp only [sizeR] <;> omega) | fail)) only [↓preR, postR, ↓w_join, Nat.reduceEqDiff, Nat.reduceAdd, Nat.reduceSub, Nat.reduceMul, Int.reduceNeg, Nat.reduceLT, Int.reduceToNat, Nat.reduceLeDiff, Nat.sub_zero, hmb])
              refine callv_by (by kernel_rfl) (there_i h4 ?_)
              intro σ5 F5 p h5 c5 g5
              obtain ⟨hE5, he5⟩ := keepE hE4 he4 c5 g5
              (try simp (maxSteps := 1000000) (dsimp := false) (disch := (first | omega | (simp only [okR]; done) | (simp only [sizeR] <;> omega) | fail)) only [↓preR, postR, ↓w_join, Nat.reduceEqDiff, Nat.reduceAdd, Nat.reduceSub, Nat.reduceMul, Int.reduceNeg, Nat.reduceLT, Int.reduceToNat, Nat.reduceLeDiff, Nat.sub_zero])
              refine callv_by (by kernel_rfl) (ends_i h5 rfl (SS.bd_there bd4) (by omega) ?_)
              intro σ6 F6 h6 c6 g6
              obtain ⟨hE6, he6⟩ := keepE hE5 he5 c6 g6
              (try simp (maxSteps := 1000000) (dsimp := false) (disch := (first | omega | (simp only [okR]; done) | (simp only [sizeR] <;> omega) | fail)) only [↓preR, postR, ↓w_join, Nat.reduceEqDiff, Nat.reduceAdd, Nat.reduceSub, Nat.reduceMul, Int.reduceNeg, Nat.reduceLT, Int.reduceToNat, Nat.reduceLeDiff, Nat.sub_zero])
              exact nxt2 _ (SS.sign_hard hin hbl hmk).symm _ F6 _ h6 hE6 he6
            · have hmb := h4.markb
              rw [hmk] at hmb
              obtain ⟨h6, c6⟩ := h4.setM false
              obtain ⟨hE6, he6⟩ := keepE hE4 he4 c6 (fun g hg => .inl hg)
              (try simp (maxSteps := 1000000) (dsimp := false) (disch := (first | omega | (simp only [okR]; done) | (simp only [sizeR] <;> omega) | fail)) only [↓preR, postR, ↓w_join, Nat.reduceEqDiff, Nat.reduceAdd, Nat.reduceSub, Nat.reduceMul, Int.reduceNeg, Nat.reduceLT, Int.reduceToNat, Nat.reduceLeDiff, Nat.sub_zero, hmb])
              exact nxt2 _ (SS.sign_mark hin hbl hmk).symm _ F4 _ h6 hE6 he6
        · have hi1 : ¬ 0 ≤ indexByte ifs c := fun h => hin (xin.1 h)
          (simp (maxSteps := 1000000) (dsimp := false) (disch := (first | omega | (simp only [okR]; done) | (simp only [sizeR] <;> omega) | fail)) only [↓preR, postR, ↓w_join, Nat.reduceEqDiff, Nat.reduceAdd, Nat.reduceSub, Nat.reduceMul, Int.reduceNeg, Nat.reduceLT, Int.reduceToNat, Nat.reduceLeDiff, Nat.sub_zero, hE4, jb, hsub])
          refine callv_by (by kernel_rfl) (there_i h4 ?_)
          intro σ5 F5 p h5 c5 g5
          obtain ⟨hE5, he5⟩ := keepE hE4 he4 c5 g5
          (try simp (maxSteps := 1000000) (dsimp := false) (disch := (first | omega | (simp only [okR]; done) | (simp only [sizeR] <;> omega) | fail)) only [↓preR, postR, ↓w_join, Nat.reduceEqDiff, Nat.reduceAdd, Nat.reduceSub, Nat.reduceMul, Int.reduceNeg, Nat.reduceLT, Int.reduceToNat, Nat.reduceLeDiff, Nat.sub_zero, hE5])
          refine add_i false h5 rfl rfl (SS.bd_there bd4) (by simp; omega) ?_
          intro σ6 F6 h6 c6 g6
          obtain ⟨hE6, he6⟩ := keepE hE5 he5 c6 g6
          (try simp (maxSteps := 1000000) (dsimp := false) (disch := (first | omega | (simp only [okR]; done) | (simp only [sizeR] <;> omega) | fail)) only [↓preR, postR, ↓w_join, Nat.reduceEqDiff, Nat.reduceAdd, Nat.reduceSub, Nat.reduceMul, Int.reduceNeg, Nat.reduceLT, Int.reduceToNat, Nat.reduceLeDiff, Nat.sub_zero])
          exact nxt2 _ (SS.sign_not hin).symm _ F6 _ h6 hE6 he6
      · obtain rfl : j = t.length := by omega
        rw [List.take_length] at h4
        (try simp (maxSteps := 1000000) (dsimp := false) (disch := (first | omega | (simp only [okR]; done) | (simp only [sizeR] <;> omega) | fail)) only [↓preR, postR, ↓w_join, Nat.reduceEqDiff, Nat.reduceAdd, Nat.reduceSub, Nat.reduceMul, Int.reduceNeg, Nat.reduceLT, Int.reduceToNat, Nat.reduceLeDiff, Nat.sub_zero])
        exact nxt _ (by simp [SS.piece]) _ F4 _ h4
  · obtain rfl : i = l.length := by omega
    rw [List.take_length] at h2 bd2
    have hfm : fieldsM l ifs = ((l.foldl (SS.piece ifs) SS.zero).fin).out := rfl
    rcases h2.nil with ⟨hs, rfl⟩ | ⟨x, p, hs, rfl⟩
    · obtain ⟨ov, ho, hr⟩ := h2.outb
      (try simp (maxSteps := 1000000) (dsimp := false) (disch := (first | omega | (simp only [okR]; done) | (simp only [sizeR] <;> omega) | fail)) only [↓preR, postR, ↓w_join, Nat.reduceEqDiff, Nat.reduceAdd, Nat.reduceSub, Nat.reduceMul, Int.reduceNeg, Nat.reduceLT, Int.reduceToNat, Nat.reduceLeDiff, Nat.sub_zero, h2.nowb, ho])
      refine hk _ _ ?_ h2.ch
      rw [hfm, SS.fin, hs]
      exact hr
    · (simp (maxSteps := 1000000) (dsimp := false) (disch := (first | omega | (simp only [okR]; done) | (simp only [sizeR] <;> omega) | fail)) only [↓preR, postR, ↓w_join, Nat.reduceEqDiff, Nat.reduceAdd, Nat.reduceSub, Nat.reduceMul, Int.reduceNeg, Nat.reduceLT, Int.reduceToNat, Nat.reduceLeDiff, Nat.sub_zero, h2.nowb])
      refine callv_by (by kernel_rfl) (ends_i h2 (by rw [hs]; rfl) bd2 (by omega) ?_)
      intro σ3 F3 h3 c3 g3
      obtain ⟨ov, ho, hr⟩ := h3.outb
      (try simp (maxSteps := 1000000) (dsimp := false) (disch := (first | omega | (simp only [okR]; done) | (simp only [sizeR] <;> omega) | fail)) only [↓preR, postR, ↓w_join, Nat.reduceEqDiff, Nat.reduceAdd, Nat.reduceSub, Nat.reduceMul, Int.reduceNeg, Nat.reduceLT, Int.reduceToNat, Nat.reduceLeDiff, Nat.sub_zero, ho])
      refine hk _ _ ?_ h3.ch
      rw [hfm, SS.fin, hs]
      exact hr
theorem fields_e {v0 : Value} {l : List Pc} {ifs : List UInt8} (h0 : RepL (α := Pc) σ.ld v0 l) (hl : many l ≤ 1000000) (hk : ∀ σ' v', RepL (α := Fld) σ'.ld v' (fieldsM l ifs) → Chg [] σ σ' → k v' σ') :
    kCall Try.prog 11 [v0, .string (bs ifs)] σ k :=
  fields_f h0 hl fun σ' v' h c => hk σ' v' (h.mono sans_le_ld) c
end
end Go.Proofs.Ytaenpaeigoeebaa
