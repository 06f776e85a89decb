/- A field that is being made: what add and field do. Conditions: as each theorem says. -/
import Derived.Test.YtaenpaeigoeebaaF8
import Derived.Test.YtaenpaeigoeebaaSb
namespace Go.Proofs.Ytaenpaeigoeebaa
open E Go.Lib
set_option linter.unusedVariables false
set_option linter.unusedSimpArgs false
set_option maxHeartbeats 4000000
set_option maxRecDepth 20000

abbrev bl (q : List Bool) : List Value := q.map Value.bool
/-- At block p a field is being made: the bytes t, the marks q; it lies in M. -/
def Mk (σ : AS) (M : List Nat) (p : Nat) (t : List UInt8) (q : List Bool) : Prop :=
  ∃ a v w, Bld σ 54 p 0 [a, v, w] v t ∧ OwnV σ w q.length 1 (bl q) ∧ p ∉ ownL w ∧ (∀ g, g ∈ ownL v → g ∉ ownL w) ∧ p ∈ M ∧ (∀ g, g ∈ ownL v → g ∈ M) ∧ (∀ g, g ∈ ownL w → g ∈ M) ∧ (∀ g, g ∈ M → g < σ.n)
section
variable {σ σ' : AS} {k : Value → AS → Prop} {p : Nat} {M S : List Nat} {t s : List UInt8} {q : List Bool}
theorem Mk.lt (h : Mk σ M p t q) : p < σ.n := by
  obtain ⟨a, v, w, h, _⟩ := h
  exact σ.lt h.m
theorem Mk.mem (h : Mk σ M p t q) : p ∈ M := by
  obtain ⟨a, v, w, _, _, _, _, h, _⟩ := h
  exact h
theorem Mk.below (h : Mk σ M p t q) : ∀ g, g ∈ M → g < σ.n := by
  obtain ⟨a, v, w, _, _, _, _, _, _, _, h⟩ := h
  exact h
theorem Mk.chg (h : Mk σ M p t q) (k : Chg S σ σ') (hn : ∀ g, g ∈ M → g ∉ S) : Mk σ' M p t q := by
  obtain ⟨a, v, w, hb, hw, h1, h2, h3, h4, h5, h6⟩ := h
  refine ⟨a, v, w, ⟨(k.m p (σ.lt hb.m) (hn p h3)).trans hb.m, hb.a, hb.b, hb.own.chg k (fun g hg => hn g (h4 g hg)), hb.ne⟩, hw.chg k (fun g hg => hn g (h5 g hg)), h1, h2, h3, h4, h5, fun g hg => Nat.lt_of_lt_of_le (h6 g hg) k.n⟩
theorem mk_new : Mk (σ.new (.typed 54 [.pointer none, .slice none 0 0, .slice none 0 0])) [σ.n] σ.n [] [] :=
  ⟨_, _, _, ⟨new_eq_, .inl rfl, rfl, OwnT.nil _ _, by simp [ownL]⟩, OwnV.nil _ _, by simp [ownL], by simp [ownL], by simp, by simp [ownL], by simp [ownL], by simp [new_n]⟩
theorem making_ok : cvfB Try.prog 70 49 54 3 0 = true := by kernel_rfl
theorem add_e (b : Bool) (h : Mk σ M p t q) (hl : t.length + s.length ≤ 140737488355328) (hq : q.length + s.length ≤ 140737488355328)
    (hk : ∀ σ' M', Mk σ' M' p (t ++ s) (q ++ List.replicate s.length b) → Chg M σ σ' → (∀ g, g ∈ M' → g ∈ M ∨ σ.n ≤ g) → k undef σ') :
    kCall Try.prog 22 [.pointer (some ⟨p, 0, none⟩), .string (bs s), .bool b] σ k := by
  obtain ⟨a, v, w, hb, hw, h1, h2, h3, h4, h5, h6⟩ := h
  refine f22 ?_
  (try simp (maxSteps := 1000000) (dsimp := false) (disch := (first | omega | (simp only [okR]; done) | (simp only [sizeR] <;> omega) | fail)) only [↓preR, postR, ↓w_join, Nat.reduceEqDiff, Nat.reduceAdd, Nat.reduceSub, Nat.reduceMul, Int.reduceNeg, Nat.reduceLT, Int.reduceToNat, Nat.reduceLeDiff, Nat.sub_zero, F22])
  refine wrs_e hb making_ok hl ?_
  intro v' σ1 hb1 c1 hg1
  have hpn := σ.lt hb.m
  have mk1 : ∃ M1, Mk σ1 M1 p (t ++ s) (q ++ List.replicate 0 b) ∧ Chg M σ σ1 ∧ ∀ g, g ∈ M1 → g ∈ M ∨ σ.n ≤ g := by
    refine ⟨p :: ownL v' ++ ownL w, ⟨_, v', w, hb1, ?_, h1, ?_, by simp, by simp; intro g hg; exact .inr (.inl hg), by simp; intro g hg; exact .inr (.inr hg), ?_⟩, c1.wide ?_, ?_⟩
    · simp only [List.replicate_zero, List.append_nil]
      exact hw.chg c1 (fun g hg => by simp; exact ⟨fun e => h1 (e ▸ hg), fun hv => h2 g hv hg⟩)
    · intro g hg hgw
      rcases hg1 g hg with h | h
      · exact h2 g h hgw
      · have := hw.lt hgw; omega
    · intro g hg
      have := c1.n
      simp at hg
      rcases hg with rfl | hg | hg
      · exact σ1.lt hb1.m
      · exact hb1.own.lt hg
      · have := hw.lt hg; omega
    · intro g hg
      simp at hg
      rcases hg with rfl | hg
      · exact h3
      · exact h4 g hg
    · intro g hg
      simp at hg
      rcases hg with rfl | hg | hg
      · exact .inl h3
      · rcases hg1 g hg with h | h
        · exact .inl (h4 g h)
        · exact .inr h
      · exact .inl (h5 g hg)
  (try simp (maxSteps := 1000000) (dsimp := false) (disch := (first | omega | (simp only [okR]; done) | (simp only [sizeR] <;> omega) | fail)) only [↓preR, postR, ↓w_join, Nat.reduceEqDiff, Nat.reduceAdd, Nat.reduceSub, Nat.reduceMul, Int.reduceNeg, Nat.reduceLT, Int.reduceToNat, Nat.reduceLeDiff, Nat.sub_zero])
  refine loop_by (α := Nat × AS) (fun x => [.int .i64 x.1]) (fun x => x.2) (fun x => x.1 ≤ s.length ∧ ∃ M1, Mk x.2 M1 p (t ++ s) (q ++ List.replicate x.1 b) ∧ Chg M σ x.2 ∧ ∀ g, g ∈ M1 → g ∈ M ∨ σ.n ≤ g) (fun x => s.length - x.1) (0, σ1) ⟨by simp, mk1⟩ rfl rfl ?_
  rintro ⟨i, σ2⟩ ⟨hi, M1, mk2, c2, g2⟩ again hag
  dsimp only at hi mk2 c2 g2 hag ⊢
  have hs64 : (s.length : Int) ≤ 140737488355328 := by omega
  by_cases hlt : i < s.length
  · obtain ⟨a2, v2, w2, hb2, hw2, k1, k2, k3, k4, k5, k6⟩ := mk2
    have hpn2 := σ2.lt hb2.m
    have hlq : (q ++ List.replicate i b).length = q.length + i := by simp
    (try simp (maxSteps := 1000000) (dsimp := false) (disch := (first | omega | (simp only [okR]; done) | (simp only [sizeR] <;> omega) | fail)) only [↓preR, postR, ↓w_join, Nat.reduceEqDiff, Nat.reduceAdd, Nat.reduceSub, Nat.reduceMul, Int.reduceNeg, Nat.reduceLT, Int.reduceToNat, Nat.reduceLeDiff, Nat.sub_zero, hb2.m])
    have c0 : Chg [] σ2 (σ2.new (.cells [.bool b])) := (Chg.refl _ _).new _
    refine app_by Try.underlying25 (by kernel_rfl : infB Try.prog 4 1 1 = true) (hw2.chg c0 (fun _ _ => by simp)) (m := 1) (news := [.bool b]) ?_ rfl (by rw [hlq]; omega) (by rw [hlq]; unfold maxLen; omega) ?_
    · rw [ldsM new_eq_ _ 0 (by simp)]; rfl
    · intro w3 σ3 hw3 c3 g3
      have hm3 : σ3.m p = some (.typed 54 [a2, v2, w2]) := by
        rw [c3.m p (by rw [new_n]; omega) k1, new_ne (by omega)]; exact hb2.m
      have okw := hw3.ok
      (try simp (maxSteps := 1000000) (dsimp := false) (disch := (first | omega | (simp only [okR]; done) | (simp only [sizeR] <;> omega) | fail)) only [↓preR, postR, ↓w_join, Nat.reduceEqDiff, Nat.reduceAdd, Nat.reduceSub, Nat.reduceMul, Int.reduceNeg, Nat.reduceLT, Int.reduceToNat, Nat.reduceLeDiff, Nat.sub_zero, hm3])
      have c4 : Chg (p :: ownL w2) σ2 (σ3.put p (.typed 54 [a2, v2, w3])) := ((c0.wide (by simp)).step c3 (fun i hi => .inl (by simp [hi]))).put (.inl (by simp)) _
      have hpw3 : p ∉ ownL w3 := fun hp => by
        rcases g3 p hp with h | h
        · exact k1 h
        · rw [new_n] at h; omega
      refine hag (i + 1, σ3.put p (.typed 54 [a2, v2, w3])) ⟨by omega, p :: ownL v2 ++ ownL w3, ⟨a2, v2, w3, ⟨by rw [put_eq, hm3]; rfl, hb2.a, rfl, ?_, hb2.ne⟩, ?_, hpw3, ?_, by simp, by simp; intro g hg; exact .inr (.inl hg), by simp; intro g hg; exact .inr (.inr hg), ?_⟩, ?_, ?_⟩ (by simp; omega)
      · exact hb2.own.chg c4 (fun g hg => by simp; exact ⟨fun e => hb2.ne (e ▸ hg), k2 g hg⟩)
      · have e : q ++ List.replicate (i + 1) b = (q ++ List.replicate i b) ++ [b] := by rw [List.replicate_succ', List.append_assoc]
        rw [e]
        have := hw3.chg ((Chg.refl [p] σ3).put (g := p) (.inl (by simp)) (.typed 54 [a2, v2, w3])) (fun g hg => by simp; rintro rfl; exact hpw3 hg)
        simpa [bl, Nat.add_assoc] using this
      · intro g hg hgw
        rcases g3 g hgw with h | h
        · exact k2 g hg h
        · have := hb2.own.lt hg; rw [new_n] at h; omega
      · intro g hg
        have := c4.n
        rw [put_n] at this ⊢
        simp at hg
        rcases hg with rfl | hg | hg
        · omega
        · have := hb2.own.lt hg; omega
        · exact hw3.lt hg
      · refine c2.step c4 (fun g hg => ?_)
        simp at hg
        rcases hg with rfl | hg
        · exact .inl h3
        · exact g2 g (k5 g hg)
      · intro g hg
        have hn := c2.n
        simp at hg
        rcases hg with rfl | hg | hg
        · exact .inl h3
        · exact g2 g (k4 g hg)
        · rcases g3 g hg with h | h
          · exact g2 g (k5 g h)
          · rw [new_n] at h; exact .inr (by omega)
  · obtain rfl : i = s.length := by omega
    (try simp (maxSteps := 1000000) (dsimp := false) (disch := (first | omega | (simp only [okR]; done) | (simp only [sizeR] <;> omega) | fail)) only [↓preR, postR, ↓w_join, Nat.reduceEqDiff, Nat.reduceAdd, Nat.reduceSub, Nat.reduceMul, Int.reduceNeg, Nat.reduceLT, Int.reduceToNat, Nat.reduceLeDiff, Nat.sub_zero])
    exact hk σ2 M1 mk2 c2 g2
/-- What was made: its bytes, its marks, in a row that lies in M. -/
theorem field_e (h : Mk σ M p t q) (hl : t.length ≤ 140737488355328)
    (hk : ∀ σ' w, OwnV σ' w q.length 1 (bl q) → (∀ g, g ∈ ownL w → g ∈ M) → Chg M σ σ' → k (.agg [.string (bs t), w].toArray) σ') :
    kCall Try.prog 21 [.pointer (some ⟨p, 0, none⟩)] σ k := by
  obtain ⟨a, v, w, hb, hw, h1, h2, h3, h4, h5, h6⟩ := h
  have hpn := σ.lt hb.m
  have c0 : Chg [] σ (σ.new (.cells [.string (bs []), .slice none 0 0])) := (Chg.refl _ _).new _
  have okw := hw.ok
  refine f21 ?_
  (try simp (maxSteps := 1000000) (dsimp := false) (disch := (first | omega | (simp only [okR]; done) | (simp only [sizeR] <;> omega) | fail)) only [↓preR, postR, ↓w_join, Nat.reduceEqDiff, Nat.reduceAdd, Nat.reduceSub, Nat.reduceMul, Int.reduceNeg, Nat.reduceLT, Int.reduceToNat, Nat.reduceLeDiff, Nat.sub_zero, F21, hb.m])
  have hb1 : Bld (σ.new (.cells [.string (bs []), .slice none 0 0])) 54 p 0 [a, v, w] v t := ⟨(c0.m p hpn (by simp)).trans hb.m, hb.a, hb.b, hb.own.chg c0 (fun _ _ => by simp), hb.ne⟩
  refine bst_e hb1 hl ?_
  intro σ2 c2
  have hm2 : σ2.m p = some (.typed 54 [a, v, w]) := (c2.m p (by rw [new_n]; omega) hb.ne).trans hb1.m
  have hn2 : σ2.m σ.n = some (.cells [.string (bs []), .slice none 0 0]) := (c2.m σ.n (by rw [new_n]; omega) (fun h => by have := hb.own.lt h; omega)).trans new_eq_
  have cw : cellsV w = [w] := by
    obtain ⟨x, c, rfl, _⟩ := hw.val
    rfl
  have okl : ([.string (bs t), w] : List Value).all okCell = true := by simp only [List.all_cons, okw]; rfl
  (try simp (maxSteps := 1000000) (dsimp := false) (disch := (first | omega | (simp only [okR]; done) | (simp only [sizeR] <;> omega) | fail)) only [↓preR, postR, ↓w_join, Nat.reduceEqDiff, Nat.reduceAdd, Nat.reduceSub, Nat.reduceMul, Int.reduceNeg, Nat.reduceLT, Int.reduceToNat, Nat.reduceLeDiff, Nat.sub_zero, hm2, hn2, cw, okl])
  have hne : p ≠ σ.n := by omega
  have c3 : Chg (ownL v) σ (σ2.put σ.n (.cells [.string (bs t), w])) := ((c0.wide (by simp)).step c2 (fun g hg => .inl hg)).put (.inr (by omega)) _
  exact hk _ w (hw.chg c3 (fun g hg hv => h2 g hv hg)) h5 (c3.wide h4)
end
end Go.Proofs.Ytaenpaeigoeebaa
