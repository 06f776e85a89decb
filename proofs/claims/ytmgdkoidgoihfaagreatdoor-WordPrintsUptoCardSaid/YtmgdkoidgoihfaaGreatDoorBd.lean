/- strings.Builder as a thing. Conditions: as each theorem says. -/
import Derived.Test.YtmgdkoidgoihfaaGreatDoorSb
import Derived.Test.YtmgdkoidgoihfaaGreatDoorG1
namespace Go.Proofs.YtmgdkoidgoihfaaGreatDoor
open E Go.Lib
set_option linter.unusedVariables false
set_option linter.unusedSimpArgs false
set_option maxHeartbeats 4000000
set_option maxRecDepth 20000

theorem E.OwnT.loc {σ σ' : AS} {e : TypeId} {v : Value} {t : List UInt8} (h : OwnT σ e v t) (hm : ∀ g, g ∈ ownL v → σ'.m g = σ.m g) : OwnT σ' e v t := by
  rcases h with h | ⟨g, c, sp, rfl, h1, h2⟩
  · exact .inl h
  · exact .inr ⟨g, c, sp, rfl, (hm g (by simp [ownL])).trans h1, h2⟩
/-- A builder that has these bytes. -/
def Bd (p : Nat) (t : List UInt8) : Ck := ⟨fun F X σ => ∃ L v, F = p :: ownL v ∧ L.length = 2 ∧ Bld σ 44 p 0 L v t,
  fun hH _ hm => by
    obtain ⟨L, v, h, h1, h2⟩ := hH
    exact ⟨L, v, h, h1, ⟨(hm p (by rw [h]; simp)).trans h2.m, h2.a, h2.b, h2.own.loc (fun g hg => hm g (by rw [h]; simp [hg])), h2.ne⟩⟩,
  fun hH g hg => by
    obtain ⟨L, v, h, h1, h2⟩ := hH
    rw [h] at hg
    rcases List.mem_cons.1 hg with rfl | hg
    · exact AS.lt h2.m
    · exact h2.own.lt hg⟩
section
variable {σ : AS} {X : Ce} {R : List Ck} {k : Value → AS → Prop} {p : Nat} {t s : List UInt8} {c : UInt8}
theorem Bd.new (h : Hs σ X R) : Hs (σ.new (.typed 44 [.pointer none, .slice none 0 0])) X (Bd σ.n [] :: R) :=
  h.more (F := [σ.n]) ((Chg.refl _ _).new _) ⟨_, .slice none 0 0, rfl, rfl, new_eq_, .inl rfl, rfl, .inl ⟨rfl, rfl⟩, by simp [ownL]⟩ (by simp)
theorem bd_cvf {n : Nat} (h : n = 2) : cvfB Tryz.prog 78 41 44 n 0 = true := by subst h; kernel_rfl
theorem wrs_c (h : Hs σ X (Bd p t :: R)) (hlen : t.length + s.length ≤ 140737488355328) (hk : ∀ v σ', Hs σ' X (Bd p (t ++ s) :: R) → k v σ') : kCall Tryz.prog 22 [.pointer (some ⟨p, 0, none⟩), .string (bs s)] σ k := by
  obtain ⟨F, ⟨L, v, rfl, hL, hB⟩, hk2⟩ := h.turn
  refine wrs_e hB (bd_cvf hL) hlen fun v' σ' hB' hc hg => hk _ _ (hk2 (F' := p :: ownL v') hc ⟨_, v', rfl, by rw [bldL_len]; exact hL, hB'⟩ (fun g hg' => ?_))
  rcases List.mem_cons.1 hg' with rfl | hg'
  · exact .inl (by simp)
  · rcases hg g hg' with h1 | h1
    · exact .inl (by simp [h1])
    · exact .inr h1
theorem wrb_c {m : Int} (hm : m = c.toNat) (h : Hs σ X (Bd p t :: R)) (hlen : t.length + 1 ≤ 140737488355328) (hk : ∀ v σ', Hs σ' X (Bd p (t ++ [c]) :: R) → k v σ') : kCall Tryz.prog 98 [.pointer (some ⟨p, 0, none⟩), .int .u8 m] σ k := by
  subst hm
  obtain ⟨F, ⟨L, v, rfl, hL, hB⟩, hk2⟩ := h.turn
  refine f98 ?_
  have ho := ltOf hB.b
  have hpn := σ.lt hB.m
  (try simp (maxSteps := 1000000) (dsimp := false) (disch := (first | omega | (simp only [okR]; done) | (simp only [sizeR] <;> omega) | fail)) only [↓preR, postR, ↓w_join, Nat.reduceEqDiff, Nat.reduceAdd, Nat.reduceSub, Nat.reduceMul, Int.reduceNeg, Nat.reduceLT, Int.reduceToNat, Nat.reduceLeDiff, Nat.sub_zero, F98])
  refine cck_c hB.m hB.a (bd_cvf hL) ?_
  have c0 : Chg [p] σ (σ.put p (.typed 44 (L.set 0 (.pointer (some ⟨p, 0, none⟩))))) := (Chg.refl _ _).put (.inl (by simp)) _
  have hm1 : (σ.put p (.typed 44 (L.set 0 (.pointer (some ⟨p, 0, none⟩))))).m p = some (.typed 44 (L.set 0 (.pointer (some ⟨p, 0, none⟩)))) := by rw [put_eq, hB.m]; rfl
  have own1 := hB.own.chg c0 (fun g hg => by simp; rintro rfl; exact hB.ne hg)
  have e1 : (L.set 0 (.pointer (some ⟨p, 0, none⟩)))[1]? = some v := by rw [List.getElem?_set_ne (by omega)]; exact hB.b
  have hp1 : p < (σ.put p (.typed 44 (L.set 0 (.pointer (some ⟨p, 0, none⟩))))).n := hpn
  generalize σ.put p _ = σ1 at c0 hm1 own1 hp1
  have l1 : (L.set 0 (.pointer (some ⟨p, 0, none⟩))).length = L.length := by simp
  have c1 : Chg [] σ1 (σ1.new (.cells [.int .u8 c.toNat])) := (Chg.refl _ _).new _
  have own2 := own1.chg c1 (by simp)
  have hm2 : (σ1.new (.cells [.int .u8 c.toNat])).m p = some (.typed 44 (L.set 0 (.pointer (some ⟨p, 0, none⟩)))) := by rw [new_ne (by omega)]; exact hm1
  have hrow : ldsS (σ1.new (.cells [.int .u8 c.toNat])) σ1.n 0 [c].length = some (byteCells [c]) := by
    rw [ldsM new_eq_ _ 0 (by simp)]; rfl
  (try simp (maxSteps := 1000000) (dsimp := false) (disch := (first | omega | (simp only [okR]; done) | (simp only [sizeR] <;> omega) | fail)) only [↓preR, postR, ↓w_join, Nat.reduceEqDiff, Nat.reduceAdd, Nat.reduceSub, Nat.reduceMul, Int.reduceNeg, Nat.reduceLT, Int.reduceToNat, Nat.reduceLeDiff, Nat.sub_zero, hm1, e1])
  generalize hnb : σ1.n = nb at hrow ⊢
  generalize AS.new σ1 _ = σ2 at c1 own2 hm2 hrow ⊢
  refine appT_by (s := [c]) Tryz.underlying42 (by kernel_rfl) own2 hrow hlen ?_
  intro v' σ3 own3 c3 hg3
  have hn2 : σ1.n ≤ σ2.n := c1.n
  have hm3 : σ3.m p = some (.typed 44 (L.set 0 (.pointer (some ⟨p, 0, none⟩)))) := (c3.m p (σ2.lt hm2) hB.ne).trans hm2
  have hp3 : p ∉ ownL v' := fun hp => by
    rcases hg3 p hp with h1 | h1
    · exact hB.ne h1
    · have := c3.n; omega
  have okv := own3.ok
  (try simp (maxSteps := 1000000) (dsimp := false) (disch := (first | omega | (simp only [okR]; done) | (simp only [sizeR] <;> omega) | fail)) only [↓preR, postR, ↓w_join, Nat.reduceEqDiff, Nat.reduceAdd, Nat.reduceSub, Nat.reduceMul, Int.reduceNeg, Nat.reduceLT, Int.reduceToNat, Nat.reduceLeDiff, Nat.sub_zero, hm3, l1])
  have cc : Chg (p :: ownL v) σ (σ3.put p (.typed 44 (bldL p 0 L v'))) :=
    (((c0.wide (T := p :: ownL v) (by simp)).step c1 (fun i hi => by cases hi)).step c3 (fun i hi => .inl (by simp [hi]))).put (.inl (by simp)) _
  refine hk _ _ (hk2 (F' := p :: ownL v') cc ⟨bldL p 0 L v', v', rfl, by rw [bldL_len]; exact hL, ⟨by rw [put_eq, hm3]; rfl, .inr ?_, ?_, own3.chg ((Chg.refl [p] σ3).put (.inl (by simp)) _) (fun g hg => by simp; rintro rfl; exact hp3 hg), hp3⟩⟩ (fun g hg => ?_))
  · rw [bldL, List.getElem?_set_ne (by omega), List.getElem?_set_self (by omega)]
  · rw [bldL, List.getElem?_set_self (by simp; omega)]
  · rcases List.mem_cons.1 hg with rfl | hg
    · exact .inl (by simp)
    · rcases hg3 g hg with h1 | h1
      · exact .inl (by simp [h1])
      · exact .inr (by have := c0.n; omega)
theorem bstr_c (h : Hs σ X (Bd p t :: R)) (hlen : t.length ≤ 140737488355328) (hk : ∀ σ', Hs σ' X R → k (.string (bs t)) σ') : kCall Tryz.prog 23 [.pointer (some ⟨p, 0, none⟩)] σ k := by
  obtain ⟨F, ⟨L, v, rfl, hL, hB⟩, hk2⟩ := h.turn
  refine bst_e hB hlen fun σ' hc => hk _ ?_
  have hc' : Chg (p :: ownL v) σ σ' := hc.wide (fun i hi => by simp [hi])
  exact (hk2 (C' := Exs (α := Unit) (fun _ => True) fun _ => []) (F' := []) hc' ⟨(), trivial, rfl⟩ (fun g hg => by cases hg)).drop
end
end Go.Proofs.YtmgdkoidgoihfaaGreatDoor
