/- The document's answer for split: its state, and what its methods do to it. Conditions: as each theorem says. -/
import Derived.Test.YtaenpaeigoeebaaSplW
namespace Go.Proofs.Ytaenpaeigoeebaa
open E Go.Lib
set_option linter.unusedVariables false
set_option linter.unusedSimpArgs false
set_option maxHeartbeats 1000000
set_option maxRecDepth 20000

section
variable {σ σ' : AS} {k : Value → AS → Prop}
theorem in_c {s : List UInt8} {c : UInt8} (hs : s.length ≤ 1000000000) (hk : k (.bool (decide (c ∈ s))) σ) : kCall Try.prog 30 [.string (bs s), .int .u8 c.toNat] σ k := by
  refine f30 ?_
  (try simp (maxSteps := 1000000) (dsimp := false) (disch := (first | omega | (simp only [okR]; done) | (simp only [sizeR] <;> omega) | fail)) only [↓preR, postR, ↓w_join, Nat.reduceEqDiff, Nat.reduceAdd, Nat.reduceSub, Nat.reduceMul, Int.reduceNeg, Nat.reduceLT, Int.reduceToNat, Nat.reduceLeDiff, Nat.sub_zero, F30])
  refine loop_by (α := Nat) (fun i => [.int .i64 i]) (fun _ => σ) (fun i => i ≤ s.length ∧ c ∉ s.take i) (fun i => s.length - i) 0 ⟨by omega, by simp⟩ rfl rfl ?_
  intro i ⟨hi, hni⟩ again hag
  dsimp only at hi hni hag ⊢
  have hs64 : (s.length : Int) ≤ 1000000000 := by omega
  by_cases hlt : i < s.length
  · have hgc : s[i]?.getD 0 = s[i] := by rw [List.getElem?_eq_getElem hlt]; rfl
    by_cases he : ((s[i]).toNat : Int) = c.toNat
    · have he' : s[i] = c := UInt8.toNat_inj.1 (by omega)
      have hin : c ∈ s := he' ▸ List.getElem_mem hlt
      (try simp (maxSteps := 1000000) (dsimp := false) (disch := (first | omega | (simp only [okR]; done) | (simp only [sizeR] <;> omega) | fail)) only [↓preR, postR, ↓w_join, Nat.reduceEqDiff, Nat.reduceAdd, Nat.reduceSub, Nat.reduceMul, Int.reduceNeg, Nat.reduceLT, Int.reduceToNat, Nat.reduceLeDiff, Nat.sub_zero, hgc, decT he])
      rw [decide_eq_true hin] at hk
      exact hk
    · (try simp (maxSteps := 1000000) (dsimp := false) (disch := (first | omega | (simp only [okR]; done) | (simp only [sizeR] <;> omega) | fail)) only [↓preR, postR, ↓w_join, Nat.reduceEqDiff, Nat.reduceAdd, Nat.reduceSub, Nat.reduceMul, Int.reduceNeg, Nat.reduceLT, Int.reduceToNat, Nat.reduceLeDiff, Nat.sub_zero, hgc, decF he])
      refine hag (i + 1) ⟨by omega, ?_⟩ (by omega)
      rw [List.take_succ_eq_append_getElem hlt]
      simp only [List.mem_append, List.mem_singleton, not_or]
      exact ⟨hni, fun e => he (by rw [e])⟩
  · obtain rfl : i = s.length := by omega
    rw [List.take_length] at hni
    (try simp (maxSteps := 1000000) (dsimp := false) (disch := (first | omega | (simp only [okR]; done) | (simp only [sizeR] <;> omega) | fail)) only [↓preR, postR, ↓w_join, Nat.reduceEqDiff, Nat.reduceAdd, Nat.reduceSub, Nat.reduceMul, Int.reduceNeg, Nat.reduceLT, Int.reduceToNat, Nat.reduceLeDiff, Nat.sub_zero])
    rw [decide_eq_false hni] at hk
    exact hk
theorem cvb_own {K : Value → Prop} {v : Value} {t : List UInt8} (h : OwnV σ v t.length 1 (byteCells t)) (hk : K (.string (bs t))) : kCvBS σ v K := by
  rcases h with ⟨rfl, h0, _⟩ | ⟨g, c, sp, rfl, hm, hl, hcl, hle, hcm⟩
  · have : t = [] := List.eq_nil_of_length_eq_zero h0
    subst this
    exact hk
  · refine cvb_by rfl ?_ hk
    have hb := byteCells_length t
    rw [ldsM hm _ 0 (by rw [List.length_append, hb]; omega), List.drop_zero, List.take_append_of_le_length (by rw [hb]; omega), List.take_of_length_le (by rw [hb]; omega)]
    rfl
/-- Block p is the document's state; all of its blocks are F. -/
def RJ (σ0 σ : AS) (p : Nat) (F : List Nat) (out : List Fd) (cur : Fd) (is mark : Bool) : Prop :=
  ∃ ov tv qv, F = p :: (ownL ov ++ (ownL tv ++ ownL qv)) ∧ σ.m p = some (.cells [ov, tv, qv, .bool is, .bool mark]) ∧ OwnR (α := Fld) σ F ov out ∧ OwnV σ tv cur.1.length 1 (byteCells cur.1) ∧ OwnV σ qv cur.2.length 1 (bl cur.2) ∧
    (∀ g, g ∈ ownL ov → g ≠ p ∧ g ∉ ownL tv ∧ g ∉ ownL qv) ∧ p ∉ ownL tv ∧ p ∉ ownL qv ∧ (∀ g, g ∈ ownL tv → g ∉ ownL qv) ∧ (∀ g, g ∈ F → σ0.n ≤ g) ∧ Chg [] σ0 σ
abbrev RI (σ0 σ : AS) (p : Nat) (F : List Nat) (s : SS) : Prop := RJ σ0 σ p F s.out s.cur s.now.isSome s.mark
variable {σ0 : AS} {p : Nat} {F : List Nat} {out : List Fd} {cur : Fd} {is mark : Bool}
theorem RJ.ge (h : RJ σ0 σ p F out cur is mark) : ∀ g, g ∈ F → σ0.n ≤ g := by obtain ⟨_, _, _, _, _, _, _, _, _, _, _, _, h, _⟩ := h; exact h
theorem RJ.ch (h : RJ σ0 σ p F out cur is mark) : Chg [] σ0 σ := by obtain ⟨_, _, _, _, _, _, _, _, _, _, _, _, _, h⟩ := h; exact h
theorem RJ.below (h : RJ σ0 σ p F out cur is mark) : ∀ g, g ∈ F → g < σ.n := by
  obtain ⟨ov, tv, qv, hF, h1, h2, h3, h4, _⟩ := h
  intro g hg
  rw [hF] at hg
  simp only [List.mem_cons, List.mem_append] at hg
  rcases hg with rfl | hg | hg | hg
  · exact σ.lt h1
  · exact h2.lt hg
  · exact h3.lt hg
  · exact h4.lt hg
theorem RJ.gar (h : RJ σ0 σ p F out cur is mark) (g : Chg [] σ σ') : RJ σ0 σ' p F out cur is mark := by
  obtain ⟨ov, tv, qv, hF, h1, h2, h3, h4, h5, h6, h7, h8, h9, h10⟩ := h
  exact ⟨ov, tv, qv, hF, (g.m _ (σ.lt h1) (by simp)).trans h1, h2.chg g (fun _ _ => by simp) (fun _ h => by simp at h), h3.chg g (fun _ _ => by simp), h4.chg g (fun _ _ => by simp), h5, h6, h7, h8, h9, h10.step g (fun _ h => by simp at h)⟩
theorem RJ.new {q : Nat} (hq : q = σ.n) : RJ σ (σ.new (.cells [.slice none 0 0, .slice none 0 0, .slice none 0 0, .bool false, .bool false])) q [q] [] ([], []) false false := by
  subst hq
  exact ⟨_, _, _, rfl, new_eq_, OwnR.nil, OwnV.nil _ _, OwnV.nil _ _, by simp [ownL], by simp [ownL], by simp [ownL], by simp [ownL], by simp, (Chg.refl _ _).new _⟩
/-- The two flags are set. -/
theorem RJ.flags (h : RJ σ0 σ p F out cur is mark) (is' mark' : Bool) {L : List Value} {ov tv qv : Value} (hm : σ.m p = some (.cells L)) (e1 : L = [ov, tv, qv, .bool is, .bool mark]) :
    RJ σ0 (σ.put p (.cells [ov, tv, qv, .bool is', .bool mark'])) p F out cur is' mark' ∧ Chg F σ (σ.put p (.cells [ov, tv, qv, .bool is', .bool mark'])) := by
  subst e1
  obtain ⟨ov', tv', qv', hF, h1, h2, h3, h4, h5, h6, h7, h8, h9, h10⟩ := h
  rw [hm] at h1
  simp only [Option.some.injEq, Ob.cells.injEq, List.cons.injEq, and_true] at h1
  obtain ⟨rfl, rfl, rfl, _⟩ := h1
  have c : Chg [p] σ (σ.put p (.cells [ov, tv, qv, .bool is', .bool mark'])) := (Chg.refl _ _).put (.inl (by simp)) _
  have hin : p ∈ F := by rw [hF]; simp
  refine ⟨⟨ov, tv, qv, hF, by rw [put_eq, hm]; rfl, h2.chg c (fun g hg => by simp; exact (h5 g hg).1) (fun g hg => .inl (by simp at hg; subst hg; exact hin)), h3.chg c (fun g hg => by simp; rintro rfl; exact h6 hg), h4.chg c (fun g hg => by simp; rintro rfl; exact h7 hg), h5, h6, h7, h8, h9, h10.step c (fun g hg => ?_)⟩, c.wide (by simpa using hin)⟩
  simp at hg; subst hg; exact .inr (h9 _ hin)
theorem end_r {n : Nat} (h : RJ σ0 σ p F out cur is mark) (hn : out.length + cur.1.length ≤ 1000000000)
    (hk : ∀ σ' F', RJ σ0 σ' p F' (out ++ [cur]) ([], []) false mark → Chg F σ σ' → (∀ g, g ∈ F' → g ∈ F ∨ σ.n ≤ g) → k undef σ') :
    kCall Try.prog 24 [.pointer (some ⟨p, 0, none⟩)] σ k := by
  obtain ⟨ov, tv, qv, hF, h1, h2, h3, h4, h5, h6, h7, h8, h9, h10⟩ := h
  have lp := σ.lt h1
  have hin : p ∈ F := by rw [hF]; simp
  have inO : ∀ g, g ∈ ownL ov → g ∈ F := fun g hg => by rw [hF]; simp [hg]
  have cq : cellsV qv = [qv] := by obtain ⟨a, c, rfl, _⟩ := h4.val; rfl
  refine f24 ?_
  (simp (maxSteps := 1000000) (dsimp := false) (disch := (first | omega | (simp only [okR]; done) | (simp only [sizeR] <;> omega) | fail)) only [↓preR, postR, ↓w_join, Nat.reduceEqDiff, Nat.reduceAdd, Nat.reduceSub, Nat.reduceMul, Int.reduceNeg, Nat.reduceLT, Int.reduceToNat, Nat.reduceLeDiff, Nat.sub_zero, F24, h1])
  refine cvb_own h3 ?_
  (simp (maxSteps := 1000000) (dsimp := false) (disch := (first | omega | (simp only [okR]; done) | (simp only [sizeR] <;> omega) | fail)) only [↓preR, postR, ↓w_join, Nat.reduceEqDiff, Nat.reduceAdd, Nat.reduceSub, Nat.reduceMul, Int.reduceNeg, Nat.reduceLT, Int.reduceToNat, Nat.reduceLeDiff, Nat.sub_zero, h1, cq])
  generalize hz : σ.new _ = σ2
  have c2 : Chg [] σ σ2 := by rw [← hz]; exact (Chg.refl _ _).new _
  have n2 : σ2.n = σ.n + 1 := by rw [← hz]; rfl
  have m2 : σ2.m σ.n = some (.cells [.string (bs cur.1), qv]) := by rw [← hz]; exact new_eq_
  have p2 := (c2.m _ lp (by simp)).trans h1
  have o2 : OwnR (α := Fld) σ2 (σ2.n :: p :: (ownL ov ++ ownL tv)) ov out := (h2.chg c2 (fun _ _ => by simp) (fun _ h => by simp at h)).more (fun g hg => by
    simp only [List.mem_cons, List.mem_append] at hg
    rcases hg with rfl | rfl | hg | hg
    · exact .inr (Nat.le_refl _)
    · exact .inl hin
    · exact .inl (inO g hg)
    · left; rw [hF]; simp [hg])
  have rw2 : RepL (sans σ2 (σ2.n :: p :: (ownL ov ++ ownL tv))) qv cur.2 := by
    refine OwnR.repX (α := Bool) ⟨bl cur.2, h4.chg c2 (fun _ _ => by simp), rpl_bool _ _⟩ (fun g hg => ?_)
    have := h4.lt hg
    simp only [List.mem_cons, List.mem_append, not_or]
    exact ⟨by omega, fun e => h7 (e ▸ hg), fun h => (h5 g h).2.2 hg, fun h => h8 g h hg⟩
  refine appR_by (α := Fld) Try.underlying33 (by kernel_rfl : infB Try.prog 36 2 40 = true) o2 (fun g hg => by simp [hg]) (m := 1) (ms := [cur]) (news := [.string (bs cur.1), qv]) ?_ (RpL.one ⟨[.string (bs cur.1)], [qv], rfl, ⟨rfl, ?_⟩, ⟨qv, rfl, rw2⟩⟩) rfl (by omega) (by unfold maxLen; omega) ?_
  · rw [ldsM m2 _ 0 (by simp [Rp.sz])]; rfl
  · show List.length cur.1 ≤ maxLen
    unfold maxLen; omega
  intro v' σ3 o3 c3 g3
  have okv := o3.ok
  have p3 := (c3.m _ (by omega) (fun h => (h5 _ h).1 rfl)).trans p2
  (try simp (maxSteps := 1000000) (dsimp := false) (disch := (first | omega | (simp only [okR]; done) | (simp only [sizeR] <;> omega) | fail)) only [↓preR, postR, ↓w_join, Nat.reduceEqDiff, Nat.reduceAdd, Nat.reduceSub, Nat.reduceMul, Int.reduceNeg, Nat.reduceLT, Int.reduceToNat, Nat.reduceLeDiff, Nat.sub_zero, p3, okv])
  have hpv : p ∉ ownL v' := fun h => by
    rcases g3 p h with h | h
    · exact (h5 _ h).1 rfl
    · omega
  have cc : Chg [p] σ3 (σ3.put p (.cells [v', .slice none 0 0, .slice none 0 0, .bool false, .bool mark])) := (Chg.refl _ _).put (.inl (by simp)) _
  have cF : Chg F σ (σ3.put p (.cells [v', .slice none 0 0, .slice none 0 0, .bool false, .bool mark])) := ((c2.wide (by simp)).step c3 (fun g hg => .inl (inO g hg))).step cc (fun g hg => .inl (by simp at hg; subst hg; exact hin))
  have sub : ∀ g, g ∈ p :: (ownL v' ++ ([] ++ [])) → g ∈ F ∨ σ.n ≤ g := by
    intro g hg
    simp only [List.mem_cons, List.append_nil] at hg
    rcases hg with rfl | hg
    · exact .inl hin
    · rcases g3 g hg with h | h
      · exact .inl (inO g h)
      · right; omega
  refine hk _ (p :: (ownL v' ++ ([] ++ []))) ⟨v', .slice none 0 0, .slice none 0 0, rfl, by rw [put_eq, p3]; rfl, ?_, OwnV.nil _ _, OwnV.nil _ _, ?_, by simp [ownL], by simp [ownL], by simp [ownL], ?_, h10.step cF (fun g hg => .inr (h9 g hg))⟩ cF sub
  · refine (o3.chg cc (fun g hg => by simp; rintro rfl; exact hpv hg) (fun g hg => .inl (by simp at hg; simp [hg]))).more (fun g hg => .inl ?_)
    simp only [List.mem_cons, List.append_nil, List.mem_append] at hg ⊢
    rcases hg with rfl | hg
    · right; left; rfl
    · rcases g3 g hg with h | h
      · right; right; left; exact h
      · left; exact h
  · intro g hg
    exact ⟨fun e => hpv (e ▸ hg), by simp [ownL], by simp [ownL]⟩
  · intro g hg
    rcases sub g hg with h | h
    · exact h9 g h
    · have := h10.n; omega
theorem add_r {t : List UInt8} (b : Bool) (h : RJ σ0 σ p F out cur is mark) (hq : cur.2.length = cur.1.length) (hn : cur.1.length + t.length ≤ 1000000000)
    (hk : ∀ σ' F', RJ σ0 σ' p F' out (cur.1 ++ t, cur.2 ++ List.replicate t.length b) true false → Chg F σ σ' → (∀ g, g ∈ F' → g ∈ F ∨ σ.n ≤ g) → k undef σ') :
    kCall Try.prog 25 [.pointer (some ⟨p, 0, none⟩), .string (bs t), .bool b] σ k := by
  refine f25 ?_
  (try simp (maxSteps := 1000000) (dsimp := false) (disch := (first | omega | (simp only [okR]; done) | (simp only [sizeR] <;> omega) | fail)) only [↓preR, postR, ↓w_join, Nat.reduceEqDiff, Nat.reduceAdd, Nat.reduceSub, Nat.reduceMul, Int.reduceNeg, Nat.reduceLT, Int.reduceToNat, Nat.reduceLeDiff, Nat.sub_zero, F25])
  refine loop_by (α := Nat × AS × List Nat) (fun x => [.int .i64 x.1]) (fun x => x.2.1) (fun x => x.1 ≤ t.length ∧ RJ σ0 x.2.1 p x.2.2 out (cur.1 ++ t.take x.1, cur.2 ++ List.replicate x.1 b) is mark ∧ Chg F σ x.2.1 ∧ ∀ g, g ∈ x.2.2 → g ∈ F ∨ σ.n ≤ g) (fun x => t.length - x.1) (0, σ, F) ⟨by simp, by simpa using h, Chg.refl _ _, fun g hg => .inl hg⟩ rfl rfl ?_
  rintro ⟨i, σ2, F2⟩ ⟨hi, r2, k2, g2⟩ again hag
  dsimp only at hi r2 k2 g2 hag ⊢
  have ht64 : (t.length : Int) ≤ 1000000000 := by omega
  by_cases hlt : i < t.length
  · have hgc : t[i]?.getD 0 = t[i] := by rw [List.getElem?_eq_getElem hlt]; rfl
    have e1 : cur.1 ++ t.take (i + 1) = (cur.1 ++ t.take i) ++ [t[i]] := by rw [List.take_succ_eq_append_getElem hlt, List.append_assoc]
    have e2 : cur.2 ++ List.replicate (i + 1) b = (cur.2 ++ List.replicate i b) ++ [b] := by rw [List.replicate_succ', List.append_assoc]
    have l1 : (cur.1 ++ t.take i).length ≤ 1000000000 := by simp; omega
    have l2 : (cur.2 ++ List.replicate i b).length ≤ 1000000000 := by simp; omega
    have nxt : ∀ σ' F', RJ σ0 σ' p F' out ((cur.1 ++ t.take i) ++ [t[i]], (cur.2 ++ List.replicate i b) ++ [b]) is mark → Chg F2 σ2 σ' → (∀ g, g ∈ F' → g ∈ F2 ∨ σ2.n ≤ g) → again [.int .i64 ((i : Int) + 1)] σ' := by
      intro σ' F' h1 h2 h3
      have := hag (i + 1, σ', F') ⟨by omega, by dsimp only; rw [e1, e2]; exact h1, k2.step h2 g2, fun g hg => by
        have := k2.n
        rcases h3 g hg with h | h
        · exact g2 g h
        · exact .inr (by omega)⟩ (by simp; omega)
      simpa using this
    generalize t[i] = c at nxt hgc
    generalize cur.1 ++ t.take i = tx at r2 nxt l1
    generalize cur.2 ++ List.replicate i b = tq at r2 nxt l2
    clear hag e1 e2
    obtain ⟨ov, tv, qv, hF, h1, h2, h3, h4, h5, h6, h7, h8, h9, h10⟩ := r2
    dsimp only at h3 h4
    have lp := σ2.lt h1
    have okt := h3.ok
    have okq := h4.ok
    have oko := h2.ok
    (simp (maxSteps := 1000000) (dsimp := false) (disch := (first | omega | (simp only [okR]; done) | (simp only [sizeR] <;> omega) | fail)) only [↓preR, postR, ↓w_join, Nat.reduceEqDiff, Nat.reduceAdd, Nat.reduceSub, Nat.reduceMul, Int.reduceNeg, Nat.reduceLT, Int.reduceToNat, Nat.reduceLeDiff, Nat.sub_zero, h1, hgc])
    generalize hz : σ2.new _ = σ3
    have c3 : Chg [] σ2 σ3 := by rw [← hz]; exact (Chg.refl _ _).new _
    have n3 : σ3.n = σ2.n + 1 := by rw [← hz]; rfl
    have m3 : σ3.m σ2.n = some (.cells [.int .u8 c.toNat]) := by rw [← hz]; exact new_eq_
    have p3 := (c3.m _ lp (by simp)).trans h1
    (try simp (maxSteps := 1000000) (dsimp := false) (disch := (first | omega | (simp only [okR]; done) | (simp only [sizeR] <;> omega) | fail)) only [↓preR, postR, ↓w_join, Nat.reduceEqDiff, Nat.reduceAdd, Nat.reduceSub, Nat.reduceMul, Int.reduceNeg, Nat.reduceLT, Int.reduceToNat, Nat.reduceLeDiff, Nat.sub_zero, p3])
    refine app_by Try.underlying50 (by kernel_rfl : infB Try.prog 5 1 1 = true) (h3.chg c3 (fun _ _ => by simp)) (m := 1) (news := [.int .u8 c.toNat]) ?_ rfl (by omega) (by unfold maxLen; omega) ?_
    · rw [ldsM m3 _ 0 (by simp)]; rfl
    intro tv' σ4 o4 c4 g4
    have p4 := (c4.m _ (by omega) h6).trans p3
    have ok4 := o4.ok
    (simp (maxSteps := 1000000) (dsimp := false) (disch := (first | omega | (simp only [okR]; done) | (simp only [sizeR] <;> omega) | fail)) only [↓preR, postR, ↓w_join, Nat.reduceEqDiff, Nat.reduceAdd, Nat.reduceSub, Nat.reduceMul, Int.reduceNeg, Nat.reduceLT, Int.reduceToNat, Nat.reduceLeDiff, Nat.sub_zero, p4, ok4])
    generalize hz5 : AS.new _ _ = σ5
    have c45 : Chg [p] σ4 σ5 := by rw [← hz5]; exact ((Chg.refl [p] σ4).put (g := p) (.inl (by simp)) _).new _
    have p5 : σ5.m p = some (.cells [ov, tv', qv, .bool is, .bool mark]) := by
      rw [← hz5, new_ne (by have := σ4.lt p4; rw [put_n]; omega), put_eq, p4]; rfl
    have b5 : σ5.m σ4.n = some (.cells [.bool b]) := by rw [← hz5]; exact new_at rfl
    have n5 : σ5.n = σ4.n + 1 := by rw [← hz5]; rfl
    have n4 := c4.n
    have q5 : OwnV σ5 qv tq.length 1 (bl tq) := ((h4.chg c3 (fun _ _ => by simp)).chg c4 (fun g hg ht => h8 g ht hg)).chg c45 (fun g hg => by simp; rintro rfl; exact h7 hg)
    refine app_by Try.underlying25 (by kernel_rfl : infB Try.prog 4 1 1 = true) q5 (m := 1) (news := [.bool b]) ?_ rfl (by omega) (by unfold maxLen; omega) ?_
    · rw [ldsM b5 _ 0 (by simp)]; rfl
    intro qv' σ6 o6 c6 g6
    have p6 := (c6.m _ (by have := σ4.lt p4; omega) h7).trans p5
    have ok6 := o6.ok
    (try simp (maxSteps := 1000000) (dsimp := false) (disch := (first | omega | (simp only [okR]; done) | (simp only [sizeR] <;> omega) | fail)) only [↓preR, postR, ↓w_join, Nat.reduceEqDiff, Nat.reduceAdd, Nat.reduceSub, Nat.reduceMul, Int.reduceNeg, Nat.reduceLT, Int.reduceToNat, Nat.reduceLeDiff, Nat.sub_zero, p6, ok6])
    have n6 := c6.n
    have hpt : p ∉ ownL tv' := fun h => by
      rcases g4 p h with h | h
      · exact h6 h
      · omega
    have hpq : p ∉ ownL qv' := fun h => by
      rcases g6 p h with h | h
      · exact h7 h
      · omega
    have cT : Chg (p :: (ownL tv ++ ownL qv)) σ2 (σ6.put p (.cells [ov, tv', qv', .bool is, .bool mark])) :=
      ((((c3.wide (by simp)).step c4 (fun g hg => .inl (by simp [hg]))).step c45 (fun g hg => .inl (by simp at hg; simp [hg]))).step c6 (fun g hg => .inl (by simp [hg]))).put (.inl (by simp)) _
    have cF : Chg F2 σ2 (σ6.put p (.cells [ov, tv', qv', .bool is, .bool mark])) := cT.wide (fun g hg => by
      rw [hF]; simp only [List.mem_cons, List.mem_append] at hg ⊢
      rcases hg with h | h | h
      · exact .inl h
      · exact .inr (.inr (.inl h))
      · exact .inr (.inr (.inr h)))
    have newt : ∀ g, g ∈ ownL tv' → g ∈ ownL tv ∨ σ2.n ≤ g := fun g hg => by
      rcases g4 g hg with h | h
      · exact .inl h
      · exact .inr (by omega)
    have newq : ∀ g, g ∈ ownL qv' → g ∈ ownL qv ∨ σ4.n ≤ g := fun g hg => by
      rcases g6 g hg with h | h
      · exact .inl h
      · exact .inr (by omega)
    have sub : ∀ g, g ∈ p :: (ownL ov ++ (ownL tv' ++ ownL qv')) → g ∈ F2 ∨ σ2.n ≤ g := by
      intro g hg
      simp only [List.mem_cons, List.mem_append] at hg
      rw [hF]; simp only [List.mem_cons, List.mem_append]
      rcases hg with h | h | h | h
      · exact .inl (.inl h)
      · exact .inl (.inr (.inl h))
      · rcases newt g h with h | h
        · exact .inl (.inr (.inr (.inl h)))
        · exact .inr h
      · rcases newq g h with h | h
        · exact .inl (.inr (.inr (.inr h)))
        · exact .inr (by omega)
    have t4lt : ∀ g, g ∈ ownL tv' → g < σ4.n := fun g hg => o4.lt hg
    refine nxt _ (p :: (ownL ov ++ (ownL tv' ++ ownL qv'))) ⟨ov, tv', qv', rfl, by rw [put_eq, p6]; rfl, ?_, ?_, ?_, ?_, hpt, hpq, ?_, ?_, h10.step cF (fun g hg => .inr (h9 g hg))⟩ cF sub
    · refine (h2.more (Y := F2 ++ (p :: (ownL ov ++ (ownL tv' ++ ownL qv')))) (fun g hg => ?_)).chg cT (fun g hg => ?_) (fun g hg => .inl ?_) |>.more (fun g hg => .inl (List.mem_append_right _ hg))
      · rw [List.mem_append] at hg
        rcases hg with h | h
        · exact .inl h
        · exact sub g h
      · have := h5 g hg
        simp only [List.mem_cons, List.mem_append, not_or]
        exact this
      · refine List.mem_append_left _ ?_
        rw [hF]; simp only [List.mem_cons, List.mem_append] at hg ⊢
        rcases hg with h | h | h
        · exact .inl h
        · exact .inr (.inr (.inl h))
        · exact .inr (.inr (.inr h))
    · have : OwnV σ4 tv' (tx ++ [c]).length 1 (byteCells (tx ++ [c])) := by simpa [byteCells] using o4
      refine ((this.chg c45 (fun g hg => by simp; rintro rfl; exact hpt hg)).chg c6 (fun g hg hgq => ?_)).chg ((Chg.refl [p] σ6).put (g := p) (.inl (by simp)) _) (fun g hg => by simp; rintro rfl; exact hpt hg)
      rcases newt g hg with h | h
      · exact h8 g h hgq
      · have := h4.lt hgq; omega
    · have : OwnV σ6 qv' (tq ++ [b]).length 1 (bl (tq ++ [b])) := by simpa [bl] using o6
      exact this.chg ((Chg.refl [p] σ6).put (g := p) (.inl (by simp)) _) (fun g hg => by simp; rintro rfl; exact hpq hg)
    · intro g hg
      have h11 := h5 g hg
      have := h2.lt hg
      refine ⟨h11.1, fun h => ?_, fun h => ?_⟩
      · rcases newt g h with h | h
        · exact h11.2.1 h
        · omega
      · rcases newq g h with h | h
        · exact h11.2.2 h
        · omega
    · intro g hg hgq
      rcases newq g hgq with h | h
      · rcases newt g hg with h' | h'
        · exact h8 g h' h
        · have := h4.lt h; omega
      · have := t4lt g hg; omega
    · intro g hg
      rcases sub g hg with h | h
      · exact h9 g h
      · have := h10.n; omega
  · obtain rfl : i = t.length := by omega
    rw [List.take_length] at r2
    obtain ⟨ov, tv, qv, hF, h1, h2, h3, h4, h5, h6, h7, h8, h9, h10⟩ := r2
    obtain ⟨r3, c3⟩ := RJ.flags ⟨ov, tv, qv, hF, h1, h2, h3, h4, h5, h6, h7, h8, h9, h10⟩ true false h1 rfl
    (try simp (maxSteps := 1000000) (dsimp := false) (disch := (first | omega | (simp only [okR]; done) | (simp only [sizeR] <;> omega) | fail)) only [↓preR, postR, ↓w_join, Nat.reduceEqDiff, Nat.reduceAdd, Nat.reduceSub, Nat.reduceMul, Int.reduceNeg, Nat.reduceLT, Int.reduceToNat, Nat.reduceLeDiff, Nat.sub_zero, h1])
    exact hk _ F2 r3 (k2.step c3 g2) g2
theorem sign_r {s : SS} {ifs : List UInt8} {c : UInt8} {n : Nat} (h : RI σ0 σ p F s) (hb : s.Bd n) (hn : n ≤ 1000000) (hi : ifs.length ≤ 1000000000)
    (hk : ∀ σ' F', RI σ0 σ' p F' (s.sign ifs c) → Chg F σ σ' → (∀ g, g ∈ F' → g ∈ F ∨ σ.n ≤ g) → k undef σ') :
    kCall Try.prog 26 [.pointer (some ⟨p, 0, none⟩), .int .u8 c.toNat, .string (bs ifs)] σ k := by
  obtain ⟨b1, b2⟩ := hb
  refine f26 ?_
  (try simp (maxSteps := 1000000) (dsimp := false) (disch := (first | omega | (simp only [okR]; done) | (simp only [sizeR] <;> omega) | fail)) only [↓preR, postR, ↓w_join, Nat.reduceEqDiff, Nat.reduceAdd, Nat.reduceSub, Nat.reduceMul, Int.reduceNeg, Nat.reduceLT, Int.reduceToNat, Nat.reduceLeDiff, Nat.sub_zero, F26])
  refine in_c hi ?_
  by_cases hin : c ∈ ifs
  · rw [decide_eq_true hin]
    have x32 : (c.toNat : Int) = 32 ↔ c = 32 := by rw [← UInt8.toNat_inj]; show _ ↔ c.toNat = 32; omega
    have x9 : (c.toNat : Int) = 9 ↔ c = 9 := by rw [← UInt8.toNat_inj]; show _ ↔ c.toNat = 9; omega
    have x10 : (c.toNat : Int) = 10 ↔ c = 10 := by rw [← UInt8.toNat_inj]; show _ ↔ c.toNat = 10; omega
    by_cases hbl : c = 32 ∨ c = 9 ∨ c = 10
    · obtain ⟨ov, tv, qv, hF, h1, hrest⟩ := h
      have h : RI σ0 σ p F s := ⟨ov, tv, qv, hF, h1, hrest⟩
      cases hs : s.now.isSome
      · have e := SS.sign_none hin hbl hs
        rw [e] at hk
        have f := hk σ F h (Chg.refl _ _) (fun g hg => .inl hg)
        rw [hs] at h1
        by_cases y32 : (c.toNat : Int) = 32
        · (try simp (maxSteps := 1000000) (dsimp := false) (disch := (first | omega | (simp only [okR]; done) | (simp only [sizeR] <;> omega) | fail)) only [↓preR, postR, ↓w_join, Nat.reduceEqDiff, Nat.reduceAdd, Nat.reduceSub, Nat.reduceMul, Int.reduceNeg, Nat.reduceLT, Int.reduceToNat, Nat.reduceLeDiff, Nat.sub_zero, h1]); exact f
        by_cases y9 : (c.toNat : Int) = 9
        · (try simp (maxSteps := 1000000) (dsimp := false) (disch := (first | omega | (simp only [okR]; done) | (simp only [sizeR] <;> omega) | fail)) only [↓preR, postR, ↓w_join, Nat.reduceEqDiff, Nat.reduceAdd, Nat.reduceSub, Nat.reduceMul, Int.reduceNeg, Nat.reduceLT, Int.reduceToNat, Nat.reduceLeDiff, Nat.sub_zero, h1]); exact f
        have y10 : (c.toNat : Int) = 10 := by
          rcases hbl with h | h | h
          · exact absurd (x32.2 h) y32
          · exact absurd (x9.2 h) y9
          · exact x10.2 h
        (try simp (maxSteps := 1000000) (dsimp := false) (disch := (first | omega | (simp only [okR]; done) | (simp only [sizeR] <;> omega) | fail)) only [↓preR, postR, ↓w_join, Nat.reduceEqDiff, Nat.reduceAdd, Nat.reduceSub, Nat.reduceMul, Int.reduceNeg, Nat.reduceLT, Int.reduceToNat, Nat.reduceLeDiff, Nat.sub_zero, h1]); exact f
      · have e := SS.sign_blank hin hbl hs
        rw [e] at hk
        rw [hs] at h1
        by_cases y32 : (c.toNat : Int) = 32
        · (simp (maxSteps := 1000000) (dsimp := false) (disch := (first | omega | (simp only [okR]; done) | (simp only [sizeR] <;> omega) | fail)) only [↓preR, postR, ↓w_join, Nat.reduceEqDiff, Nat.reduceAdd, Nat.reduceSub, Nat.reduceMul, Int.reduceNeg, Nat.reduceLT, Int.reduceToNat, Nat.reduceLeDiff, Nat.sub_zero, h1])
          refine end_r (n := 0) h (by omega) ?_
          intro σ1 F1 r1 c1 g1
          obtain ⟨ov1, tv1, qv1, hF1, m1, hr1⟩ := r1
          obtain ⟨r2, c2⟩ := RJ.flags ⟨ov1, tv1, qv1, hF1, m1, hr1⟩ false true m1 rfl
          (try simp (maxSteps := 1000000) (dsimp := false) (disch := (first | omega | (simp only [okR]; done) | (simp only [sizeR] <;> omega) | fail)) only [↓preR, postR, ↓w_join, Nat.reduceEqDiff, Nat.reduceAdd, Nat.reduceSub, Nat.reduceMul, Int.reduceNeg, Nat.reduceLT, Int.reduceToNat, Nat.reduceLeDiff, Nat.sub_zero, m1])
          exact hk _ F1 r2 ((c1.step c2 g1)) g1
        by_cases y9 : (c.toNat : Int) = 9
        · (simp (maxSteps := 1000000) (dsimp := false) (disch := (first | omega | (simp only [okR]; done) | (simp only [sizeR] <;> omega) | fail)) only [↓preR, postR, ↓w_join, Nat.reduceEqDiff, Nat.reduceAdd, Nat.reduceSub, Nat.reduceMul, Int.reduceNeg, Nat.reduceLT, Int.reduceToNat, Nat.reduceLeDiff, Nat.sub_zero, h1])
          refine end_r (n := 0) h (by omega) ?_
          intro σ1 F1 r1 c1 g1
          obtain ⟨ov1, tv1, qv1, hF1, m1, hr1⟩ := r1
          obtain ⟨r2, c2⟩ := RJ.flags ⟨ov1, tv1, qv1, hF1, m1, hr1⟩ false true m1 rfl
          (try simp (maxSteps := 1000000) (dsimp := false) (disch := (first | omega | (simp only [okR]; done) | (simp only [sizeR] <;> omega) | fail)) only [↓preR, postR, ↓w_join, Nat.reduceEqDiff, Nat.reduceAdd, Nat.reduceSub, Nat.reduceMul, Int.reduceNeg, Nat.reduceLT, Int.reduceToNat, Nat.reduceLeDiff, Nat.sub_zero, m1])
          exact hk _ F1 r2 ((c1.step c2 g1)) g1
        have y10 : (c.toNat : Int) = 10 := by
          rcases hbl with h | h | h
          · exact absurd (x32.2 h) y32
          · exact absurd (x9.2 h) y9
          · exact x10.2 h
        (simp (maxSteps := 1000000) (dsimp := false) (disch := (first | omega | (simp only [okR]; done) | (simp only [sizeR] <;> omega) | fail)) only [↓preR, postR, ↓w_join, Nat.reduceEqDiff, Nat.reduceAdd, Nat.reduceSub, Nat.reduceMul, Int.reduceNeg, Nat.reduceLT, Int.reduceToNat, Nat.reduceLeDiff, Nat.sub_zero, h1])
        refine end_r (n := 0) h (by omega) ?_
        intro σ1 F1 r1 c1 g1
        obtain ⟨ov1, tv1, qv1, hF1, m1, hr1⟩ := r1
        obtain ⟨r2, c2⟩ := RJ.flags ⟨ov1, tv1, qv1, hF1, m1, hr1⟩ false true m1 rfl
        (try simp (maxSteps := 1000000) (dsimp := false) (disch := (first | omega | (simp only [okR]; done) | (simp only [sizeR] <;> omega) | fail)) only [↓preR, postR, ↓w_join, Nat.reduceEqDiff, Nat.reduceAdd, Nat.reduceSub, Nat.reduceMul, Int.reduceNeg, Nat.reduceLT, Int.reduceToNat, Nat.reduceLeDiff, Nat.sub_zero, m1])
        exact hk _ F1 r2 ((c1.step c2 g1)) g1
    · have y32 : ¬ (c.toNat : Int) = 32 := fun h => hbl (.inl (x32.1 h))
      have y9 : ¬ (c.toNat : Int) = 9 := fun h => hbl (.inr (.inl (x9.1 h)))
      have y10 : ¬ (c.toNat : Int) = 10 := fun h => hbl (.inr (.inr (x10.1 h)))
      obtain ⟨ov, tv, qv, hF, h1, hrest⟩ := h
      have h : RI σ0 σ p F s := ⟨ov, tv, qv, hF, h1, hrest⟩
      cases hmk : s.mark
      · rw [SS.sign_hard hin hbl hmk] at hk
        rw [hmk] at h1
        (simp (maxSteps := 1000000) (dsimp := false) (disch := (first | omega | (simp only [okR]; done) | (simp only [sizeR] <;> omega) | fail)) only [↓preR, postR, ↓w_join, Nat.reduceEqDiff, Nat.reduceAdd, Nat.reduceSub, Nat.reduceMul, Int.reduceNeg, Nat.reduceLT, Int.reduceToNat, Nat.reduceLeDiff, Nat.sub_zero, h1])
        refine end_r (n := 0) h (by omega) ?_
        intro σ1 F1 r1 c1 g1
        (try simp (maxSteps := 1000000) (dsimp := false) (disch := (first | omega | (simp only [okR]; done) | (simp only [sizeR] <;> omega) | fail)) only [↓preR, postR, ↓w_join, Nat.reduceEqDiff, Nat.reduceAdd, Nat.reduceSub, Nat.reduceMul, Int.reduceNeg, Nat.reduceLT, Int.reduceToNat, Nat.reduceLeDiff, Nat.sub_zero])
        rw [hmk] at r1
        exact hk _ F1 r1 c1 g1
      · rw [SS.sign_mark hin hbl hmk] at hk
        obtain ⟨r2, c2⟩ := RJ.flags h s.now.isSome false h1 rfl
        rw [hmk] at h1
        (try simp (maxSteps := 1000000) (dsimp := false) (disch := (first | omega | (simp only [okR]; done) | (simp only [sizeR] <;> omega) | fail)) only [↓preR, postR, ↓w_join, Nat.reduceEqDiff, Nat.reduceAdd, Nat.reduceSub, Nat.reduceMul, Int.reduceNeg, Nat.reduceLT, Int.reduceToNat, Nat.reduceLeDiff, Nat.sub_zero, h1])
        exact hk _ F r2 c2 (fun g hg => .inl hg)
  · rw [decide_eq_false hin]
    rw [SS.sign_not hin] at hk
    (simp (maxSteps := 1000000) (dsimp := false) (disch := (first | omega | (simp only [okR]; done) | (simp only [sizeR] <;> omega) | fail)) only [↓preR, postR, ↓w_join, Nat.reduceEqDiff, Nat.reduceAdd, Nat.reduceSub, Nat.reduceMul, Int.reduceNeg, Nat.reduceLT, Int.reduceToNat, Nat.reduceLeDiff, Nat.sub_zero])
    refine cvb_all (l := [c]) new_eq_ rfl ?_
    have c0 : Chg [] σ (σ.new (.cells [.int .u8 c.toNat])) := (Chg.refl _ _).new _
    refine add_r (t := [c]) false (h.gar c0) b1 (by simp; omega) ?_
    intro σ1 F1 r1 c1 g1
    (try simp (maxSteps := 1000000) (dsimp := false) (disch := (first | omega | (simp only [okR]; done) | (simp only [sizeR] <;> omega) | fail)) only [↓preR, postR, ↓w_join, Nat.reduceEqDiff, Nat.reduceAdd, Nat.reduceSub, Nat.reduceMul, Int.reduceNeg, Nat.reduceLT, Int.reduceToNat, Nat.reduceLeDiff, Nat.sub_zero])
    exact hk _ F1 r1 ((c0.wide (by simp)).step c1 (fun g hg => .inl hg)) (fun g hg => by
      rcases g1 g hg with h | h
      · exact .inl h
      · exact .inr (by rw [new_n] at h; omega))
end
end Go.Proofs.Ytaenpaeigoeebaa
