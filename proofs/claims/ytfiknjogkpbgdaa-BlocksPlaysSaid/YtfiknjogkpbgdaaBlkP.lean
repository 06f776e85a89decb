/- What each call answers, call by call: the walk. Conditions: as each theorem says. -/
import Derived.Test.YtfiknjogkpbgdaaBlkR
import Derived.Test.YtfiknjogkpbgdaaFD
namespace Go.Proofs.Ytfiknjogkpbgdaa
open E
set_option linter.unusedVariables false
set_option linter.unusedSimpArgs false
set_option maxHeartbeats 4000000
set_option maxRecDepth 20000

theorem Sto.chg {S : List Nat} {σ σ' : AS} {p s c : Nat} {x : List Value} {st : List Bk} (h : Sto σ p s c x st) (k : Chg S σ σ') (h1 : p ∉ S) (h2 : s ∉ S) : Sto σ' p s c x st :=
  ⟨(k.m p (σ.lt h.ptr) h1).trans h.ptr, (k.m s (σ.lt h.row) h2).trans h.row, h.ne, h.ok, h.few, h.cap, h.pos⟩
section
variable {σ : AS} {k : Value → AS → Prop} {p s c : Nat} {x : List Value} {st : List Bk}
theorem copy_c (h : Sto σ p s c x st) (hk : ∀ σ' p' s' c' x', σ.n ≤ p' → σ.n ≤ s' → Sto σ' p' s' c' x' st → Chg [] σ σ' → k (.pointer (some ⟨p', 0, none⟩)) σ') :
    kCall Try.prog 20 [.pointer (some ⟨p, 0, none⟩)] σ k := by
  have hf := h.few
  have hl := encS_len st h.ok
  have hb : (encS st).all okCell = true := by
    rw [List.all_eq_true]
    intro v hv
    simp only [encS, List.mem_flatMap, encB, List.mem_cons, List.mem_map] at hv
    obtain ⟨b, _, rfl | ⟨u, _, rfl⟩⟩ := hv <;> rfl
  refine f20 ?_
  (try simp (maxSteps := 1000000) (dsimp := false) (disch := (first | omega | (simp only [okR]; done) | (simp only [sizeR] <;> omega) | fail)) only [↓preR, postR, ↓w_join, Nat.reduceEqDiff, Nat.reduceAdd, Nat.reduceSub, Nat.reduceMul, Int.reduceNeg, Nat.reduceLT, Int.reduceToNat, Nat.reduceLeDiff, Nat.sub_zero, F20, h.ptr])
  refine f28 ?_
  (try simp (maxSteps := 1000000) (dsimp := false) (disch := (first | omega | (simp only [okR]; done) | (simp only [sizeR] <;> omega) | fail)) only [↓preR, postR, ↓w_join, Nat.reduceEqDiff, Nat.reduceAdd, Nat.reduceSub, Nat.reduceMul, Int.reduceNeg, Nat.reduceLT, Int.reduceToNat, Nat.reduceLeDiff, Nat.sub_zero, F28])
  refine app_by Try.underlying50 (by kernel_rfl : infB Try.prog 56 65 65 = true) (OwnV.made σ [] 0 65 (by simp) (by unfold maxLen; omega)) (m := st.length) (news := encS st) ?_ hb (by omega) (by unfold maxLen; omega) ?_
  · rw [ldsM (by rw [new_ne (by have := σ.lt h.row; omega)]; exact h.row) _ 0 (by simp [hl]), List.drop_zero, List.take_append_of_le_length (by omega), List.take_of_length_le (by omega)]
  · intro v' σ' ho hc hg
    simp only [Nat.zero_add, List.nil_append] at ho
    have hc0 : Chg [] σ σ' := (Chg.new (Chg.refl [] σ) _).step hc (fun i hi => by simp [ownL] at hi; omega)
    have hm2 : σ'.m p = σ.m p := hc0.m p (σ.lt h.ptr) (by simp)
    have hpl := σ.lt h.ptr
    rcases ho with ⟨rfl, hn, _⟩ | ⟨g, c', sp, rfl, hm, _, _, hcap, _⟩
    · have := h.pos; omega
    · have hgn := hg g (by simp [ownL])
      have hgl : σ.n ≤ g := by
        rcases hgn with h1 | h1
        · simp [ownL] at h1; omega
        · rw [new_n] at h1; omega
      have hlt := σ'.lt hm
      (try simp (maxSteps := 1000000) (dsimp := false) (disch := (first | omega | (simp only [okR]; done) | (simp only [sizeR] <;> omega) | fail)) only [↓preR, postR, ↓w_join, Nat.reduceEqDiff, Nat.reduceAdd, Nat.reduceSub, Nat.reduceMul, Int.reduceNeg, Nat.reduceLT, Int.reduceToNat, Nat.reduceLeDiff, Nat.sub_zero, hm2, h.ptr])
      refine hk _ σ'.n g c' sp hc0.n hgl ⟨?_, ?_, by omega, h.ok, h.few, hcap, h.pos⟩ (Chg.new hc0 _)
      · rw [new_eq_]
      · rw [new_ne (by omega)]; exact hm
end

/-- Both stores have the same blocks, and share nothing. -/
structure PI (σ0 σ : AS) (p s c : Nat) (x : List Value) (q r d : Nat) (y : List Value) (st : List Bk) : Prop where
  sto : Sto σ p s c x st
  rst : Rst σ q r d y st
  d1 : p ≠ q
  d2 : p ≠ r
  d3 : s ≠ q
  d4 : s ≠ r
  lp : σ0.n ≤ p
  ls : σ0.n ≤ s
  lq : σ0.n ≤ q
  lr : σ0.n ≤ r
  chg : Chg [] σ0 σ
theorem PI.both {σ0 σ σ1 σ2 : AS} {p s c q r d : Nat} {x y : List Value} {st st' : List Bk} (h : PI σ0 σ p s c x q r d y st) (h1 : Sto σ1 p s c x st') (c1 : Chg [p, s] σ σ1) (h2 : Rst σ2 q r d y st') (c2 : Chg [q, r] σ1 σ2) : PI σ0 σ2 p s c x q r d y st' :=
  ⟨h1.chg c2 (by have := h.d1; have := h.d2; simp; omega) (by have := h.d3; have := h.d4; simp; omega), h2, h.d1, h.d2, h.d3, h.d4, h.lp, h.ls, h.lq, h.lr,
    (h.chg.two c1 (by have := h.lp; have := h.ls; intro g hg; simp at hg; omega)).two c2 (by have := h.lq; have := h.lr; intro g hg; simp at hg; omega)⟩
theorem PI.gar {σ0 σ σ1 : AS} {p s c q r d : Nat} {x y : List Value} {st : List Bk} (h : PI σ0 σ p s c x q r d y st) (g : Gar σ σ1) : PI σ0 σ1 p s c x q r d y st :=
  ⟨h.sto.chg g.chg (by simp) (by simp), h.rst.chg g.chg (by simp) (by simp), h.d1, h.d2, h.d3, h.d4, h.lp, h.ls, h.lq, h.lr, h.chg.two g.chg (fun g hg => by simp at hg)⟩
theorem PI.rst1 {σ0 σ σ1 : AS} {p s c q r d : Nat} {x y : List Value} {st : List Bk} (h : PI σ0 σ p s c x q r d y st) (c1 : Chg [p, s] σ σ1) : Rst σ1 q r d y st :=
  h.rst.chg c1 (by have := h.d1; have := h.d3; simp; omega) (by have := h.d2; have := h.d4; simp; omega)

abbrev Op := Int × Int × Int × Int × Str
def opC (o : Op) : List Value := [.int .i64 o.1, .int .i64 o.2.1, .int .i64 o.2.2.1, .int .i64 o.2.2.2.1, .string (bs o.2.2.2.2)]
theorem opC_of {c : Ce} {o : Op} {cs : List Value} (h : Rp.rp c o cs) : cs = opC o ∧ inI64 o.2.1 ∧ inI64 o.2.2.1 ∧ inI64 o.2.2.2.1 ∧ List.length o.2.2.2.2 ≤ maxLen := by
  obtain ⟨_, _, rfl, ⟨rfl, _⟩, _, _, rfl, ⟨rfl, w1⟩, _, _, rfl, ⟨rfl, w2⟩, _, _, rfl, ⟨rfl, w3⟩, rfl, ht⟩ := h
  exact ⟨rfl, w1, w2, w3, ht⟩

theorem plays_walk {σ0 : AS} (n : Int) (v : Value) (ops : List Op) (ho : RepL σ0.c v ops) (wn : inI64 n) : kCall Try.prog 6 [.int .i64 n, v] σ0 fun v _ => v = .bool true := by
  unfold inI64 at wn
  refine f6 ?_
  by_cases hn : n < 1 ∨ 4096 < n
  · (try simp (maxSteps := 1000000) (dsimp := false) (disch := (first | omega | (simp only [okR]; done) | (simp only [sizeR] <;> omega) | fail)) only [↓preR, postR, ↓w_join, Nat.reduceEqDiff, Nat.reduceAdd, Nat.reduceSub, Nat.reduceMul, Int.reduceNeg, Nat.reduceLT, Int.reduceToNat, Nat.reduceLeDiff, Nat.sub_zero, F6])
    refine new_arg n hn ?_
    (try simp (maxSteps := 1000000) (dsimp := false) (disch := (first | omega | (simp only [okR]; done) | (simp only [sizeR] <;> omega) | fail)) only [↓preR, postR, ↓w_join, Nat.reduceEqDiff, Nat.reduceAdd, Nat.reduceSub, Nat.reduceMul, Int.reduceNeg, Nat.reduceLT, Int.reduceToNat, Nat.reduceLeDiff, Nat.sub_zero])
    refine rnew_arg n hn ?_
    (try simp (maxSteps := 1000000) (dsimp := false) (disch := (first | omega | (simp only [okR]; done) | (simp only [sizeR] <;> omega) | fail)) only [↓preR, postR, ↓w_join, Nat.reduceEqDiff, Nat.reduceAdd, Nat.reduceSub, Nat.reduceMul, Int.reduceNeg, Nat.reduceLT, Int.reduceToNat, Nat.reduceLeDiff, Nat.sub_zero])
    refine awake_ok (fun j => ?_)
    (try simp (maxSteps := 1000000) (dsimp := false) (disch := (first | omega | (simp only [okR]; done) | (simp only [sizeR] <;> omega) | fail)) only [↓preR, postR, ↓w_join, Nat.reduceEqDiff, Nat.reduceAdd, Nat.reduceSub, Nat.reduceMul, Int.reduceNeg, Nat.reduceLT, Int.reduceToNat, Nat.reduceLeDiff, Nat.sub_zero])
  obtain ⟨n, rfl⟩ : ∃ m : Nat, n = m := ⟨n.toNat, by omega⟩
  obtain ⟨a, cap, rfl, hcap, hmax, hrow⟩ := ho
  unfold maxLen at hmax
  (try simp (maxSteps := 1000000) (dsimp := false) (disch := (first | omega | (simp only [okR]; done) | (simp only [sizeR] <;> omega) | fail)) only [↓preR, postR, ↓w_join, Nat.reduceEqDiff, Nat.reduceAdd, Nat.reduceSub, Nat.reduceMul, Int.reduceNeg, Nat.reduceLT, Int.reduceToNat, Nat.reduceLeDiff, Nat.sub_zero, F6])
  refine new_some n (by omega) (by omega) (fun σ1 p s hp hs g1 h1 => ?_)
  (try simp (maxSteps := 1000000) (dsimp := false) (disch := (first | omega | (simp only [okR]; done) | (simp only [sizeR] <;> omega) | fail)) only [↓preR, postR, ↓w_join, Nat.reduceEqDiff, Nat.reduceAdd, Nat.reduceSub, Nat.reduceMul, Int.reduceNeg, Nat.reduceLT, Int.reduceToNat, Nat.reduceLeDiff, Nat.sub_zero])
  have hp1 := σ1.lt h1.ptr
  have hs1 := σ1.lt h1.row
  refine rnew_some n (by omega) (by omega) (fun σ2 q r hq hr g2 h2 => ?_)
  have pi2 : PI σ0 σ2 p s n [] q r (n + 1) [] (fresh n) := ⟨h1.chg g2.chg (by simp) (by simp), h2, by omega, by omega, by omega, by omega, hp, hs, by have := g1.n; omega, by have := g1.n; omega, g1.chg.two g2.chg (fun g hg => by simp at hg)⟩
  (try simp (maxSteps := 1000000) (dsimp := false) (disch := (first | omega | (simp only [okR]; done) | (simp only [sizeR] <;> omega) | fail)) only [↓preR, postR, ↓w_join, Nat.reduceEqDiff, Nat.reduceAdd, Nat.reduceSub, Nat.reduceMul, Int.reduceNeg, Nat.reduceLT, Int.reduceToNat, Nat.reduceLeDiff, Nat.sub_zero])
  refine loop_by (α := Nat × AS × Nat × Nat × Nat × List Value × Nat × Nat × Nat × List Value × List Bk) (fun (i, σ, p, s, c, x, q, r, d, y, st) => [.pointer (some ⟨p, 0, none⟩), .pointer (some ⟨q, 0, none⟩), .int .i64 i]) (fun (i, σ, p, s, c, x, q, r, d, y, st) => σ)
    (fun (i, σ, p, s, c, x, q, r, d, y, st) => i ≤ ops.length ∧ PI σ0 σ p s c x q r d y st) (fun (i, σ, p, s, c, x, q, r, d, y, st) => ops.length - i) (0, σ2, p, s, n, [], q, r, n + 1, [], fresh n) ⟨by simp, pi2⟩ rfl rfl ?_
  clear pi2 h1 h2 g1 g2 hp hs hq hr hp1 hs1
  rintro ⟨i, σ, p, s, c, x, q, r, d, y, st⟩ ⟨hi, pi⟩ again hag
  dsimp only at hi pi hag ⊢
  by_cases hlt : i < ops.length
  · by_cases hlt2 : i < 100
    · rcases hrow with hrow | ⟨b, o, rfl, hrow⟩
      · rw [hrow] at hlt; simp at hlt
      · rw [← pi.chg.c] at hrow
        obtain ⟨cs, hcs, hlds⟩ := hrow.lds i hlt
        obtain ⟨rfl, w1, w2, w3, ht⟩ := opC_of hcs
        generalize ops[i] = op at *
        obtain ⟨ask, B, At, N, t⟩ := op
        change List UInt8 at t
        dsimp only [opC] at hlds w1 w2 w3 ht
        unfold inI64 at w1 w2 w3
        have hld5 : ldNS σ 5 (.pointer (some ⟨b, o + i * 5, none⟩)) = some (.agg [.int .i64 ask, .int .i64 B, .int .i64 At, .int .i64 N, .string (bs t)].toArray) := by
          rw [ldN_p]; exact congrArg (Option.map _) hlds
        by_cases ht2 : 200 < t.length
        · (try simp (maxSteps := 1000000) (dsimp := false) (disch := (first | omega | (simp only [okR]; done) | (simp only [sizeR] <;> omega) | fail)) only [↓preR, postR, ↓w_join, Nat.reduceEqDiff, Nat.reduceAdd, Nat.reduceSub, Nat.reduceMul, Int.reduceNeg, Nat.reduceLT, Int.reduceToNat, Nat.reduceLeDiff, Nat.sub_zero, hld5])
          refine awake_ok (fun j => ?_)
          (try simp (maxSteps := 1000000) (dsimp := false) (disch := (first | omega | (simp only [okR]; done) | (simp only [sizeR] <;> omega) | fail)) only [↓preR, postR, ↓w_join, Nat.reduceEqDiff, Nat.reduceAdd, Nat.reduceSub, Nat.reduceMul, Int.reduceNeg, Nat.reduceLT, Int.reduceToNat, Nat.reduceLeDiff, Nat.sub_zero])
        (try simp (maxSteps := 1000000) (dsimp := false) (disch := (first | omega | (simp only [okR]; done) | (simp only [sizeR] <;> omega) | fail)) only [↓preR, postR, ↓w_stop, Nat.reduceEqDiff, Nat.reduceAdd, Nat.reduceSub, Nat.reduceMul, Int.reduceNeg, Nat.reduceLT, Int.reduceToNat, Nat.reduceLeDiff, Nat.sub_zero, hld5])
        refine join_now ?_
        (try simp (maxSteps := 1000000) (dsimp := false) (disch := (first | omega | (simp only [okR]; done) | (simp only [sizeR] <;> omega) | fail)) only [↓preR, postR, ↓w_stop, Nat.reduceEqDiff, Nat.reduceAdd, Nat.reduceSub, Nat.reduceMul, Int.reduceNeg, Nat.reduceLT, Int.reduceToNat, Nat.reduceLeDiff, Nat.sub_zero, hld5])
        refine join_now ?_
        (try simp (maxSteps := 1000000) (dsimp := false) (disch := (first | omega | (simp only [okR]; done) | (simp only [sizeR] <;> omega) | fail)) only [↓preR, postR, ↓w_stop, Nat.reduceEqDiff, Nat.reduceAdd, Nat.reduceSub, Nat.reduceMul, Int.reduceNeg, Nat.reduceLT, Int.reduceToNat, Nat.reduceLeDiff, Nat.sub_zero, hld5])
        generalize hsa : AS.put _ _ _ = σa
        have ga : Gar σ σa := by rw [← hsa]; exact (Gar.new (Gar.refl _) _).put (by omega) _
        have oa : σa.m σ.n = some (.cells [.int .i64 ask, .int .i64 B, .int .i64 At, .int .i64 N, .string (bs t)]) := by rw [← hsa, put_eq, new_eq_]; rfl
        have na : σa.n = σ.n + 1 := by rw [← hsa]; rfl
        have hlp := σ.lt pi.sto.ptr
        have hls := σ.lt pi.sto.row
        have hlq := σ.lt pi.rst.ptr
        have hlr := σ.lt pi.rst.row
        replace pi := pi.gar ga
        clear hld5 hlds hcs hrow hsa ga
        (try simp (maxSteps := 1000000) (dsimp := false) (disch := (first | omega | (simp only [okR]; done) | (simp only [sizeR] <;> omega) | fail)) only [↓preR, postR, ↓w_stop, Nat.reduceEqDiff, Nat.reduceAdd, Nat.reduceSub, Nat.reduceMul, Int.reduceNeg, Nat.reduceLT, Int.reduceToNat, Nat.reduceLeDiff, Nat.sub_zero])
        refine join_now ?_
        (try simp (maxSteps := 1000000) (dsimp := false) (disch := (first | omega | (simp only [okR]; done) | (simp only [sizeR] <;> omega) | fail)) only [↓preR, postR, ↓w_stop, Nat.reduceEqDiff, Nat.reduceAdd, Nat.reduceSub, Nat.reduceMul, Int.reduceNeg, Nat.reduceLT, Int.reduceToNat, Nat.reduceLeDiff, Nat.sub_zero, oa])
        refine join_by fun J8 hJ8 => ?_
        have hw : ∀ σ' p s c x q r d y st, PI σ0 σ' p s c x q r d y st → Chg [] σa σ' ∨ (σ'.m σ.n = some (.cells [.int .i64 ask, .int .i64 B, .int .i64 At, .int .i64 N, .string (bs t)])) → J8 [.pointer (some ⟨p, 0, none⟩), .pointer (some ⟨q, 0, none⟩)] σ' := by
          intro σ' p s c x q r d y st pi' hob
          have ob : σ'.m σ.n = some (.cells [.int .i64 ask, .int .i64 B, .int .i64 At, .int .i64 N, .string (bs t)]) := by
            rcases hob with h | h
            · rw [h.m _ (by omega) (by simp), oa]
            · exact h
          refine hJ8 _ _ ?_
          clear hJ8
          obtain ⟨u, e, he⟩ : ∃ u e, readM st B 0 64 = (u, e) := ⟨_, _, rfl⟩
          (try simp (maxSteps := 1000000) (dsimp := false) (disch := (first | omega | (simp only [okR]; done) | (simp only [sizeR] <;> omega) | fail)) only [↓preR, postR, ↓w_join, Nat.reduceEqDiff, Nat.reduceAdd, Nat.reduceSub, Nat.reduceMul, Int.reduceNeg, Nat.reduceLT, Int.reduceToNat, Nat.reduceLeDiff, Nat.sub_zero, ob])
          refine read_e pi'.sto he ?_
          (try simp (maxSteps := 1000000) (dsimp := false) (disch := (first | omega | (simp only [okR]; done) | (simp only [sizeR] <;> omega) | fail)) only [↓preR, postR, ↓w_join, Nat.reduceEqDiff, Nat.reduceAdd, Nat.reduceSub, Nat.reduceMul, Int.reduceNeg, Nat.reduceLT, Int.reduceToNat, Nat.reduceLeDiff, Nat.sub_zero, ob])
          refine rread_e pi'.rst he ?_
          (try simp (maxSteps := 1000000) (dsimp := false) (disch := (first | omega | (simp only [okR]; done) | (simp only [sizeR] <;> omega) | fail)) only [↓preR, postR, ↓w_join, Nat.reduceEqDiff, Nat.reduceAdd, Nat.reduceSub, Nat.reduceMul, Int.reduceNeg, Nat.reduceLT, Int.reduceToNat, Nat.reduceLeDiff, Nat.sub_zero])
          refine free_any pi'.sto ?_
          (try simp (maxSteps := 1000000) (dsimp := false) (disch := (first | omega | (simp only [okR]; done) | (simp only [sizeR] <;> omega) | fail)) only [↓preR, postR, ↓w_join, Nat.reduceEqDiff, Nat.reduceAdd, Nat.reduceSub, Nat.reduceMul, Int.reduceNeg, Nat.reduceLT, Int.reduceToNat, Nat.reduceLeDiff, Nat.sub_zero])
          refine rfree_c pi'.rst ?_
          (try simp (maxSteps := 1000000) (dsimp := false) (disch := (first | omega | (simp only [okR]; done) | (simp only [sizeR] <;> omega) | fail)) only [↓preR, postR, ↓w_join, Nat.reduceEqDiff, Nat.reduceAdd, Nat.reduceSub, Nat.reduceMul, Int.reduceNeg, Nat.reduceLT, Int.reduceToNat, Nat.reduceLeDiff, Nat.sub_zero])
          exact hag (i + 1, σ', p, s, c, x, q, r, d, y, st) ⟨by omega, pi'⟩ (by simp; omega)
        clear hJ8
        by_cases a0 : ask = 0
        · subst a0
          obtain ⟨u, e, st', he⟩ : ∃ u e st', takeM st = (u, e, st') := ⟨_, _, _, rfl⟩
          (try simp (maxSteps := 1000000) (dsimp := false) (disch := (first | omega | (simp only [okR]; done) | (simp only [sizeR] <;> omega) | fail)) only [↓preR, postR, ↓w_join, Nat.reduceEqDiff, Nat.reduceAdd, Nat.reduceSub, Nat.reduceMul, Int.reduceNeg, Nat.reduceLT, Int.reduceToNat, Nat.reduceLeDiff, Nat.sub_zero, oa])
          refine take_e pi.sto he (fun σ1 h1 c1 => ?_)
          (try simp (maxSteps := 1000000) (dsimp := false) (disch := (first | omega | (simp only [okR]; done) | (simp only [sizeR] <;> omega) | fail)) only [↓preR, postR, ↓w_join, Nat.reduceEqDiff, Nat.reduceAdd, Nat.reduceSub, Nat.reduceMul, Int.reduceNeg, Nat.reduceLT, Int.reduceToNat, Nat.reduceLeDiff, Nat.sub_zero])
          refine rtake_e (pi.rst1 c1) he (fun σ2 h2 c2 => ?_)
          (try simp (maxSteps := 1000000) (dsimp := false) (disch := (first | omega | (simp only [okR]; done) | (simp only [sizeR] <;> omega) | fail)) only [↓preR, postR, ↓w_join, Nat.reduceEqDiff, Nat.reduceAdd, Nat.reduceSub, Nat.reduceMul, Int.reduceNeg, Nat.reduceLT, Int.reduceToNat, Nat.reduceLeDiff, Nat.sub_zero])
          exact hw _ _ _ _ _ _ _ _ _ _ (pi.both h1 c1 h2 c2) (.inr (by rw [c2.m _ (by have := c1.n; omega) (by simp; omega), c1.m _ (by omega) (by simp; omega), oa]))
        by_cases a1 : ask = 1
        · subst a1
          obtain ⟨e, st', he⟩ : ∃ e st', giveM st B = (e, st') := ⟨_, _, rfl⟩
          (try simp (maxSteps := 1000000) (dsimp := false) (disch := (first | omega | (simp only [okR]; done) | (simp only [sizeR] <;> omega) | fail)) only [↓preR, postR, ↓w_join, Nat.reduceEqDiff, Nat.reduceAdd, Nat.reduceSub, Nat.reduceMul, Int.reduceNeg, Nat.reduceLT, Int.reduceToNat, Nat.reduceLeDiff, Nat.sub_zero, oa])
          refine give_e pi.sto he (fun σ1 h1 c1 => ?_)
          have o1 : σ1.m σ.n = some (.cells [.int .i64 1, .int .i64 B, .int .i64 At, .int .i64 N, .string (bs t)]) := by rw [c1.m _ (by omega) (by simp; omega), oa]
          (try simp (maxSteps := 1000000) (dsimp := false) (disch := (first | omega | (simp only [okR]; done) | (simp only [sizeR] <;> omega) | fail)) only [↓preR, postR, ↓w_join, Nat.reduceEqDiff, Nat.reduceAdd, Nat.reduceSub, Nat.reduceMul, Int.reduceNeg, Nat.reduceLT, Int.reduceToNat, Nat.reduceLeDiff, Nat.sub_zero, o1])
          refine rgive_e (pi.rst1 c1) he (fun σ2 h2 c2 => ?_)
          (try simp (maxSteps := 1000000) (dsimp := false) (disch := (first | omega | (simp only [okR]; done) | (simp only [sizeR] <;> omega) | fail)) only [↓preR, postR, ↓w_join, Nat.reduceEqDiff, Nat.reduceAdd, Nat.reduceSub, Nat.reduceMul, Int.reduceNeg, Nat.reduceLT, Int.reduceToNat, Nat.reduceLeDiff, Nat.sub_zero])
          exact hw _ _ _ _ _ _ _ _ _ _ (pi.both h1 c1 h2 c2) (.inr (by rw [c2.m _ (by have := c1.n; omega) (by simp; omega), o1]))
        by_cases a2 : ask = 2
        · subst a2
          obtain ⟨u, e, he⟩ : ∃ u e, readM st B At N = (u, e) := ⟨_, _, rfl⟩
          (try simp (maxSteps := 1000000) (dsimp := false) (disch := (first | omega | (simp only [okR]; done) | (simp only [sizeR] <;> omega) | fail)) only [↓preR, postR, ↓w_join, Nat.reduceEqDiff, Nat.reduceAdd, Nat.reduceSub, Nat.reduceMul, Int.reduceNeg, Nat.reduceLT, Int.reduceToNat, Nat.reduceLeDiff, Nat.sub_zero, oa])
          refine read_e pi.sto he ?_
          (try simp (maxSteps := 1000000) (dsimp := false) (disch := (first | omega | (simp only [okR]; done) | (simp only [sizeR] <;> omega) | fail)) only [↓preR, postR, ↓w_join, Nat.reduceEqDiff, Nat.reduceAdd, Nat.reduceSub, Nat.reduceMul, Int.reduceNeg, Nat.reduceLT, Int.reduceToNat, Nat.reduceLeDiff, Nat.sub_zero, oa])
          refine rread_e pi.rst he ?_
          (try simp (maxSteps := 1000000) (dsimp := false) (disch := (first | omega | (simp only [okR]; done) | (simp only [sizeR] <;> omega) | fail)) only [↓preR, postR, ↓w_join, Nat.reduceEqDiff, Nat.reduceAdd, Nat.reduceSub, Nat.reduceMul, Int.reduceNeg, Nat.reduceLT, Int.reduceToNat, Nat.reduceLeDiff, Nat.sub_zero])
          exact hw _ _ _ _ _ _ _ _ _ _ pi (.inr oa)
        by_cases a3 : ask = 3
        · subst a3
          obtain ⟨e, st', he⟩ : ∃ e st', writeM st B At t = (e, st') := ⟨_, _, rfl⟩
          (try simp (maxSteps := 1000000) (dsimp := false) (disch := (first | omega | (simp only [okR]; done) | (simp only [sizeR] <;> omega) | fail)) only [↓preR, postR, ↓w_join, Nat.reduceEqDiff, Nat.reduceAdd, Nat.reduceSub, Nat.reduceMul, Int.reduceNeg, Nat.reduceLT, Int.reduceToNat, Nat.reduceLeDiff, Nat.sub_zero, oa])
          refine write_e pi.sto he (fun σ1 h1 c1 => ?_)
          have o1 : σ1.m σ.n = some (.cells [.int .i64 3, .int .i64 B, .int .i64 At, .int .i64 N, .string (bs t)]) := by rw [c1.m _ (by omega) (by simp; omega), oa]
          (try simp (maxSteps := 1000000) (dsimp := false) (disch := (first | omega | (simp only [okR]; done) | (simp only [sizeR] <;> omega) | fail)) only [↓preR, postR, ↓w_join, Nat.reduceEqDiff, Nat.reduceAdd, Nat.reduceSub, Nat.reduceMul, Int.reduceNeg, Nat.reduceLT, Int.reduceToNat, Nat.reduceLeDiff, Nat.sub_zero, o1])
          refine rwrite_e (pi.rst1 c1) (by omega) he (fun σ2 h2 c2 => ?_)
          (try simp (maxSteps := 1000000) (dsimp := false) (disch := (first | omega | (simp only [okR]; done) | (simp only [sizeR] <;> omega) | fail)) only [↓preR, postR, ↓w_join, Nat.reduceEqDiff, Nat.reduceAdd, Nat.reduceSub, Nat.reduceMul, Int.reduceNeg, Nat.reduceLT, Int.reduceToNat, Nat.reduceLeDiff, Nat.sub_zero])
          exact hw _ _ _ _ _ _ _ _ _ _ (pi.both h1 c1 h2 c2) (.inr (by rw [c2.m _ (by have := c1.n; omega) (by simp; omega), o1]))
        (try simp (maxSteps := 1000000) (dsimp := false) (disch := (first | omega | (simp only [okR]; done) | (simp only [sizeR] <;> omega) | fail)) only [↓preR, postR, ↓w_join, Nat.reduceEqDiff, Nat.reduceAdd, Nat.reduceSub, Nat.reduceMul, Int.reduceNeg, Nat.reduceLT, Int.reduceToNat, Nat.reduceLeDiff, Nat.sub_zero, oa])
        refine copy_c pi.sto (fun σ1 p1 s1 c1 x1 hp1 hs1 h1 k1 => ?_)
        (try simp (maxSteps := 1000000) (dsimp := false) (disch := (first | omega | (simp only [okR]; done) | (simp only [sizeR] <;> omega) | fail)) only [↓preR, postR, ↓w_join, Nat.reduceEqDiff, Nat.reduceAdd, Nat.reduceSub, Nat.reduceMul, Int.reduceNeg, Nat.reduceLT, Int.reduceToNat, Nat.reduceLeDiff, Nat.sub_zero])
        refine rcopy_c (pi.rst.chg k1 (by simp) (by simp)) (fun σ2 q1 r1 d1 y1 hq1 hr1 h2 k2 => ?_)
        (try simp (maxSteps := 1000000) (dsimp := false) (disch := (first | omega | (simp only [okR]; done) | (simp only [sizeR] <;> omega) | fail)) only [↓preR, postR, ↓w_join, Nat.reduceEqDiff, Nat.reduceAdd, Nat.reduceSub, Nat.reduceMul, Int.reduceNeg, Nat.reduceLT, Int.reduceToNat, Nat.reduceLeDiff, Nat.sub_zero])
        have hp2 := σ1.lt h1.ptr
        have hs2 := σ1.lt h1.row
        have hn1 := k1.n
        have hn2 := k2.n
        obtain ⟨u, e, st', he⟩ : ∃ u e st', takeM st = (u, e, st') := ⟨_, _, _, rfl⟩
        have pi2 := (pi.sto.chg k1 (by simp) (by simp)).chg k2 (by simp) (by simp)
        refine take_e pi2 he (fun σ3 h3 k3 => ?_)
        obtain ⟨e2, st2, he2⟩ : ∃ e st2, writeM st' 1 0 [120] = (e, st2) := ⟨_, _, rfl⟩
        (try simp (maxSteps := 1000000) (dsimp := false) (disch := (first | omega | (simp only [okR]; done) | (simp only [sizeR] <;> omega) | fail)) only [↓preR, postR, ↓w_join, Nat.reduceEqDiff, Nat.reduceAdd, Nat.reduceSub, Nat.reduceMul, Int.reduceNeg, Nat.reduceLT, Int.reduceToNat, Nat.reduceLeDiff, Nat.sub_zero])
        refine write_e h3 he2 (fun σ4 h4 k4 => ?_)
        (try simp (maxSteps := 1000000) (dsimp := false) (disch := (first | omega | (simp only [okR]; done) | (simp only [sizeR] <;> omega) | fail)) only [↓preR, postR, ↓w_join, Nat.reduceEqDiff, Nat.reduceAdd, Nat.reduceSub, Nat.reduceMul, Int.reduceNeg, Nat.reduceLT, Int.reduceToNat, Nat.reduceLeDiff, Nat.sub_zero])
        have hn3 := k3.n
        refine hw σ4 p1 s1 c1 x1 q1 r1 d1 y1 st ⟨?_, ?_, by omega, by omega, by omega, by omega, ?_, ?_, ?_, ?_, ?_⟩ (.inr ?_)
        · exact ((h1.chg k2 (by simp) (by simp)).chg k3 (by simp; omega) (by simp; omega)).chg k4 (by simp; omega) (by simp; omega)
        · exact (h2.chg k3 (by simp; omega) (by simp; omega)).chg k4 (by simp; omega) (by simp; omega)
        · have := pi.chg.n; omega
        · have := pi.chg.n; omega
        · have := pi.chg.n; omega
        · have := pi.chg.n; omega
        · have hS : ∀ g, g ∈ [p, s] → σ0.n ≤ g := by intro g hg; have := pi.lp; have := pi.ls; simp at hg; omega
          exact (((pi.chg.two k1 (fun g hg => by simp at hg)).two k2 (fun g hg => by simp at hg)).two k3 hS).two k4 hS
        · rw [k4.m _ (by omega) (by simp; omega), k3.m _ (by omega) (by simp; omega), k2.m _ (by omega) (by simp), k1.m _ (by omega) (by simp), oa]
    · (try simp (maxSteps := 1000000) (dsimp := false) (disch := (first | omega | (simp only [okR]; done) | (simp only [sizeR] <;> omega) | fail)) only [↓preR, postR, ↓w_join, Nat.reduceEqDiff, Nat.reduceAdd, Nat.reduceSub, Nat.reduceMul, Int.reduceNeg, Nat.reduceLT, Int.reduceToNat, Nat.reduceLeDiff, Nat.sub_zero])
      refine awake_ok (fun j => ?_)
      (try simp (maxSteps := 1000000) (dsimp := false) (disch := (first | omega | (simp only [okR]; done) | (simp only [sizeR] <;> omega) | fail)) only [↓preR, postR, ↓w_join, Nat.reduceEqDiff, Nat.reduceAdd, Nat.reduceSub, Nat.reduceMul, Int.reduceNeg, Nat.reduceLT, Int.reduceToNat, Nat.reduceLeDiff, Nat.sub_zero])
  · (try simp (maxSteps := 1000000) (dsimp := false) (disch := (first | omega | (simp only [okR]; done) | (simp only [sizeR] <;> omega) | fail)) only [↓preR, postR, ↓w_join, Nat.reduceEqDiff, Nat.reduceAdd, Nat.reduceSub, Nat.reduceMul, Int.reduceNeg, Nat.reduceLT, Int.reduceToNat, Nat.reduceLeDiff, Nat.sub_zero])
    refine awake_ok (fun j => ?_)
    (try simp (maxSteps := 1000000) (dsimp := false) (disch := (first | omega | (simp only [okR]; done) | (simp only [sizeR] <;> omega) | fail)) only [↓preR, postR, ↓w_join, Nat.reduceEqDiff, Nat.reduceAdd, Nat.reduceSub, Nat.reduceMul, Int.reduceNeg, Nat.reduceLT, Int.reduceToNat, Nat.reduceLeDiff, Nat.sub_zero])
theorem plays_law {σ : AS} {v0 v1 : Value} (A0 : OV σ.c (shOf Try.prog 8 3) v0) (A1 : OV σ.c (shOf Try.prog 8 42) v1) :
    kCall Try.prog 6 [v0, v1] σ fun v _ => v = .bool true := by
  rw [show shOf Try.prog 8 3 = .int .i64 from by kernel_rfl] at A0
  rw [show shOf Try.prog 8 42 = .slice (.fld 1 (.int .i64) (.fld 1 (.int .i64) (.fld 1 (.int .i64) (.fld 1 (.int .i64) (.fld 1 .str .fin))))) (1 + (1 + (1 + (1 + 1)))) from by kernel_rfl] at A1
  obtain ⟨n, rfl, wn⟩ := arg_int A0
  obtain ⟨ops, ho⟩ := arg_list (α := Op) A1
  exact plays_walk n v1 ops ho wn
end Go.Proofs.Ytfiknjogkpbgdaa
