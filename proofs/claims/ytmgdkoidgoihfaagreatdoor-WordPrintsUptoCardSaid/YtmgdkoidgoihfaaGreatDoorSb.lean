/- strings.Builder, wherever it lies in a block with its type. Conditions: as each theorem says. -/
import Derived.Test.YtmgdkoidgoihfaaGreatDoorF7
import Derived.Test.YtmgdkoidgoihfaaGreatDoorC
namespace Go.Proofs.YtmgdkoidgoihfaaGreatDoor
open E Go.Lib
set_option linter.unusedVariables false
set_option linter.unusedSimpArgs false
set_option maxHeartbeats 4000000
set_option maxRecDepth 20000

/-- At (p, o), in a block of type T with the cells L, lies a builder that has the bytes t, in the row v. -/
structure Bld (σ : AS) (T : TypeId) (p o : Nat) (L : List Value) (v : Value) (t : List UInt8) : Prop where
  m : σ.m p = some (.typed T L)
  a : L[o]? = some (.pointer none) ∨ L[o]? = some (.pointer (some ⟨p, o, none⟩))
  b : L[o + 1]? = some v
  own : OwnT σ 5 v t
  ne : p ∉ ownL v
def bldL (p o : Nat) (L : List Value) (v : Value) : List Value := (L.set o (.pointer (some ⟨p, o, none⟩))).set (o + 1) v
theorem bldL_len (p o : Nat) (L : List Value) (v : Value) : (bldL p o L v).length = L.length := by simp [bldL]
section
variable {σ : AS} {k : Value → AS → Prop} {p o : Nat} {T : TypeId} {L : List Value} {v : Value} {t s : List UInt8}
theorem ltOf {α : Type} {l : List α} {i : Nat} {a : α} (h : l[i]? = some a) : i < l.length := (List.getElem?_eq_some_iff.1 h).1
theorem cck_c (hm : σ.m p = some (.typed T L)) (ha : L[o]? = some (.pointer none) ∨ L[o]? = some (.pointer (some ⟨p, o, none⟩))) (hc : cvfB Tryz.prog 78 41 T L.length o = true)
    (hk : k undef (σ.put p (.typed T (L.set o (.pointer (some ⟨p, o, none⟩)))))) : kCall Tryz.prog 36 [.pointer (some ⟨p, o, none⟩)] σ k := by
  refine f36 ?_
  rcases ha with ha | ha
  · have ho := ltOf ha
    (try simp (maxSteps := 1000000) (dsimp := false) (disch := (first | omega | (simp only [okR]; done) | (simp only [sizeR] <;> omega) | fail)) only [↓preR, postR, ↓w_join, Nat.reduceEqDiff, Nat.reduceAdd, Nat.reduceSub, Nat.reduceMul, Int.reduceNeg, Nat.reduceLT, Int.reduceToNat, Nat.reduceLeDiff, Nat.sub_zero, F36, hm, ha])
    refine cvt_by (by kernel_rfl) hm ho ?_
    (try simp (maxSteps := 1000000) (dsimp := false) (disch := (first | omega | (simp only [okR]; done) | (simp only [sizeR] <;> omega) | fail)) only [↓preR, postR, ↓w_join, Nat.reduceEqDiff, Nat.reduceAdd, Nat.reduceSub, Nat.reduceMul, Int.reduceNeg, Nat.reduceLT, Int.reduceToNat, Nat.reduceLeDiff, Nat.sub_zero])
    refine noe_by (by kernel_rfl) (by kernel_rfl) ?_
    (try simp (maxSteps := 1000000) (dsimp := false) (disch := (first | omega | (simp only [okR]; done) | (simp only [sizeR] <;> omega) | fail)) only [↓preR, postR, ↓w_join, Nat.reduceEqDiff, Nat.reduceAdd, Nat.reduceSub, Nat.reduceMul, Int.reduceNeg, Nat.reduceLT, Int.reduceToNat, Nat.reduceLeDiff, Nat.sub_zero])
    refine cvf_by hc hm ?_
    (try simp (maxSteps := 1000000) (dsimp := false) (disch := (first | omega | (simp only [okR]; done) | (simp only [sizeR] <;> omega) | fail)) only [↓preR, postR, ↓w_join, Nat.reduceEqDiff, Nat.reduceAdd, Nat.reduceSub, Nat.reduceMul, Int.reduceNeg, Nat.reduceLT, Int.reduceToNat, Nat.reduceLeDiff, Nat.sub_zero, hm])
    exact hk
  · have ho := ltOf ha
    have e : L.set o (.pointer (some ⟨p, o, none⟩)) = L := by
      apply List.ext_getElem?
      intro i
      by_cases h : o = i
      · subst h; rw [List.getElem?_set_self ho, ha]
      · rw [List.getElem?_set_ne h]
    rw [e, put_same hm] at hk
    (try simp (maxSteps := 1000000) (dsimp := false) (disch := (first | omega | (simp only [okR]; done) | (simp only [sizeR] <;> omega) | fail)) only [↓preR, postR, ↓w_join, Nat.reduceEqDiff, Nat.reduceAdd, Nat.reduceSub, Nat.reduceMul, Int.reduceNeg, Nat.reduceLT, Int.reduceToNat, Nat.reduceLeDiff, Nat.sub_zero, F36, hm, ha])
    refine neq_by (by kernel_rfl) ?_
    (try simp (maxSteps := 1000000) (dsimp := false) (disch := (first | omega | (simp only [okR]; done) | (simp only [sizeR] <;> omega) | fail)) only [↓preR, postR, ↓w_join, Nat.reduceEqDiff, Nat.reduceAdd, Nat.reduceSub, Nat.reduceMul, Int.reduceNeg, Nat.reduceLT, Int.reduceToNat, Nat.reduceLeDiff, Nat.sub_zero])
    exact hk
theorem wrs_e (h : Bld σ T p o L v t) (hc : cvfB Tryz.prog 78 41 T L.length o = true) (hlen : t.length + s.length ≤ 140737488355328)
    (hk : ∀ v' σ', Bld σ' T p o (bldL p o L v') v' (t ++ s) → Chg (p :: ownL v) σ σ' → (∀ g, g ∈ ownL v' → g ∈ ownL v ∨ σ.n ≤ g) → k (.tuple #[.int .i64 s.length, .nilIface]) σ') :
    kCall Tryz.prog 22 [.pointer (some ⟨p, o, none⟩), .string (bs s)] σ k := by
  refine f22 ?_
  have ho := ltOf h.b
  have hpn := σ.lt h.m
  (try simp (maxSteps := 1000000) (dsimp := false) (disch := (first | omega | (simp only [okR]; done) | (simp only [sizeR] <;> omega) | fail)) only [↓preR, postR, ↓w_join, Nat.reduceEqDiff, Nat.reduceAdd, Nat.reduceSub, Nat.reduceMul, Int.reduceNeg, Nat.reduceLT, Int.reduceToNat, Nat.reduceLeDiff, Nat.sub_zero, F22])
  refine cck_c h.m h.a hc ?_
  have c0 : Chg [p] σ (σ.put p (.typed T (L.set o (.pointer (some ⟨p, o, none⟩))))) := (Chg.refl _ _).put (.inl (by simp)) _
  have hm1 : (σ.put p (.typed T (L.set o (.pointer (some ⟨p, o, none⟩))))).m p = some (.typed T (L.set o (.pointer (some ⟨p, o, none⟩)))) := by rw [put_eq, h.m]; rfl
  have own1 := h.own.chg c0 (fun g hg => by simp; rintro rfl; exact h.ne hg)
  have e1 : (L.set o (.pointer (some ⟨p, o, none⟩)))[o + 1]? = some v := by rw [List.getElem?_set_ne (by omega)]; exact h.b
  generalize σ.put p _ = σ1 at c0 hm1 own1
  have l1 : (L.set o (.pointer (some ⟨p, o, none⟩))).length = L.length := by simp
  (try simp (maxSteps := 1000000) (dsimp := false) (disch := (first | omega | (simp only [okR]; done) | (simp only [sizeR] <;> omega) | fail)) only [↓preR, postR, ↓w_join, Nat.reduceEqDiff, Nat.reduceAdd, Nat.reduceSub, Nat.reduceMul, Int.reduceNeg, Nat.reduceLT, Int.reduceToNat, Nat.reduceLeDiff, Nat.sub_zero, hm1, e1])
  refine appS_by Tryz.underlying42 Tryz.underlying9 (by kernel_rfl) own1 hlen ?_
  intro v' σ2 own2 c2 hg2
  have hm2 : σ2.m p = some (.typed T (L.set o (.pointer (some ⟨p, o, none⟩)))) := (c2.m p (σ1.lt hm1) h.ne).trans hm1
  have hp2 : p ∉ ownL v' := fun hp => by
    rcases hg2 p hp with h1 | h1
    · exact h.ne h1
    · have := c0.n; omega
  have okv := own2.ok
  (try simp (maxSteps := 1000000) (dsimp := false) (disch := (first | omega | (simp only [okR]; done) | (simp only [sizeR] <;> omega) | fail)) only [↓preR, postR, ↓w_join, Nat.reduceEqDiff, Nat.reduceAdd, Nat.reduceSub, Nat.reduceMul, Int.reduceNeg, Nat.reduceLT, Int.reduceToNat, Nat.reduceLeDiff, Nat.sub_zero, hm2, l1])
  have cc : Chg (p :: ownL v) σ (σ2.put p (.typed T (bldL p o L v'))) :=
    ((c0.wide (T := p :: ownL v) (by simp)).step c2 (fun i hi => .inl (by simp [hi]))).put (.inl (by simp)) _
  refine hk v' _ ⟨by rw [put_eq, hm2]; rfl, .inr ?_, ?_, own2.chg ((Chg.refl [p] σ2).put (.inl (by simp)) _) (fun g hg => by simp; rintro rfl; exact hp2 hg), hp2⟩ cc (fun g hg => ?_)
  · rw [bldL, List.getElem?_set_ne (by omega), List.getElem?_set_self (by omega)]
  · rw [bldL, List.getElem?_set_self (by simp; omega)]
  · rcases hg2 g hg with h1 | h1
    · exact .inl h1
    · exact .inr (by have := c0.n; omega)
theorem bst_e (h : Bld σ T p o L v t) (hlen : t.length ≤ 140737488355328) (hk : ∀ σ', Chg (ownL v) σ σ' → k (.string (bs t)) σ') : kCall Tryz.prog 23 [.pointer (some ⟨p, o, none⟩)] σ k := by
  refine f23 ?_
  obtain ⟨x, c, rfl, hcl⟩ := h.own.val
  (try simp (maxSteps := 1000000) (dsimp := false) (disch := (first | omega | (simp only [okR]; done) | (simp only [sizeR] <;> omega) | fail)) only [↓preR, postR, ↓w_join, Nat.reduceEqDiff, Nat.reduceAdd, Nat.reduceSub, Nat.reduceMul, Int.reduceNeg, Nat.reduceLT, Int.reduceToNat, Nat.reduceLeDiff, Nat.sub_zero, F23, h.m, h.b])
  refine usd_by h.own ?_
  (try simp (maxSteps := 1000000) (dsimp := false) (disch := (first | omega | (simp only [okR]; done) | (simp only [sizeR] <;> omega) | fail)) only [↓preR, postR, ↓w_join, Nat.reduceEqDiff, Nat.reduceAdd, Nat.reduceSub, Nat.reduceMul, Int.reduceNeg, Nat.reduceLT, Int.reduceToNat, Nat.reduceLeDiff, Nat.sub_zero, h.m, h.b])
  refine ust_by (by kernel_rfl) h.own (by omega) ?_
  intro σ' c'
  (try simp (maxSteps := 1000000) (dsimp := false) (disch := (first | omega | (simp only [okR]; done) | (simp only [sizeR] <;> omega) | fail)) only [↓preR, postR, ↓w_join, Nat.reduceEqDiff, Nat.reduceAdd, Nat.reduceSub, Nat.reduceMul, Int.reduceNeg, Nat.reduceLT, Int.reduceToNat, Nat.reduceLeDiff, Nat.sub_zero])
  exact hk σ' c'
end
end Go.Proofs.YtmgdkoidgoihfaaGreatDoor
