/- Pieces into fields, as functions on lists. Conditions: as each theorem says. -/
import Derived.Test.YtaenpaeigoeebaaSplA
namespace Go.Proofs.Ytaenpaeigoeebaa
open E Go.Lib
set_option linter.unusedVariables false
set_option linter.unusedSimpArgs false
set_option maxHeartbeats 4000000
set_option maxRecDepth 20000

abbrev Fd := List UInt8 × List Bool
abbrev Fld := Fd
abbrev Pc := List UInt8 × Bool × Bool × Bool
structure SS where
  out : List Fd
  now : Option Fd
  mark : Bool
namespace SS
def cur (s : SS) : Fd := s.now.getD ([], [])
def there (s : SS) : SS := ⟨s.out, some s.cur, false⟩
def add (s : SS) (t : List UInt8) (b : Bool) : SS := ⟨s.out, some (s.cur.1 ++ t, s.cur.2 ++ List.replicate t.length b), false⟩
def ends (s : SS) : SS := ⟨s.out ++ [s.cur], none, s.mark⟩
def fin (s : SS) : SS := if s.now.isSome then s.ends else s
def setM (s : SS) (b : Bool) : SS := ⟨s.out, s.now, b⟩
def sign (ifs : List UInt8) (s : SS) (c : UInt8) : SS :=
  if c ∈ ifs then (if c = 32 ∨ c = 9 ∨ c = 10 then (if s.now.isSome then s.ends.setM true else s) else if s.mark then s.setM false else s.there.ends) else s.add [c] false
def piece (ifs : List UInt8) (s : SS) (p : Pc) : SS :=
  if p.2.2.2 then s.fin.setM false else if p.2.1 then s.add p.1 true else if p.2.2.1 then p.1.foldl (sign ifs) s else if p.1 = [] then s else s.add p.1 false
def zero : SS := ⟨[], none, false⟩
/-- How much there is. -/
def Bd (s : SS) (n : Nat) : Prop := s.cur.2.length = s.cur.1.length ∧ s.out.length + s.cur.1.length ≤ n
section
variable {s : SS} {n m : Nat}
theorem Bd.le (h : s.Bd n) (hm : n ≤ m) : s.Bd m := ⟨h.1, Nat.le_trans h.2 hm⟩
theorem there_cur : s.there.cur = s.cur := rfl
theorem bd_there (h : s.Bd n) : s.there.Bd n := h
theorem bd_add (h : s.Bd n) (t : List UInt8) (b : Bool) : (s.add t b).Bd (n + t.length) := by
  obtain ⟨h1, h2⟩ := h
  refine ⟨?_, ?_⟩
  · show (_ ++ _ : List Bool).length = (_ ++ _ : List UInt8).length
    rw [List.length_append, List.length_append, List.length_replicate, h1]
  · show s.out.length + (_ ++ _ : List UInt8).length ≤ _
    rw [List.length_append]
    omega
theorem bd_ends (h : s.Bd n) : s.ends.Bd (n + 1) := ⟨rfl, by
  show (s.out ++ [s.cur]).length + 0 ≤ n + 1
  have := h.2
  simp; omega⟩
theorem bd_setM (h : s.Bd n) (b : Bool) : (s.setM b).Bd n := h
theorem bd_fin (h : s.Bd n) : s.fin.Bd (n + 1) := by
  unfold fin
  split
  · exact bd_ends h
  · exact h.le (by omega)
theorem bd_sign (ifs : List UInt8) (c : UInt8) (h : s.Bd n) : (s.sign ifs c).Bd (n + 1) := by
  unfold sign
  split
  · split
    · split
      · exact bd_setM (bd_ends h) _
      · exact h.le (by omega)
    · split
      · exact (bd_setM h _).le (by omega)
      · exact bd_ends (bd_there h)
  · exact bd_add h _ _
theorem bd_signs (ifs : List UInt8) : ∀ (t : List UInt8) {s : SS} {n : Nat}, s.Bd n → (t.foldl (sign ifs) s).Bd (n + t.length)
  | [], s, n, h => h
  | c :: t, s, n, h => (bd_signs ifs t (bd_sign ifs c h)).le (by simp; omega)
theorem bd_piece (ifs : List UInt8) (p : Pc) (h : s.Bd n) : (s.piece ifs p).Bd (n + (List.length p.1 + 1)) := by
  unfold piece
  split
  · exact (bd_setM (bd_fin h) _).le (by omega)
  split
  · exact (bd_add h _ _).le (by omega)
  split
  · exact (bd_signs ifs p.1 h).le (by omega)
  split
  · exact h.le (by omega)
  · exact (bd_add h _ _).le (by omega)
theorem bd_zero : zero.Bd 0 := ⟨rfl, Nat.le_refl _⟩
end
end SS
def many (l : List Pc) : Nat := (l.map fun p => List.length p.1 + 1).sum
def fieldsS (l : List Pc) (ifs : List UInt8) : SS := (l.foldl (SS.piece ifs) SS.zero).fin
def fieldsM (l : List Pc) (ifs : List UInt8) : List Fd := (fieldsS l ifs).out
def oneM (l : List Pc) : Fd := l.foldl (fun f p => if p.2.2.2 then (f.1 ++ [32], f.2 ++ [false]) else (f.1 ++ p.1, f.2 ++ List.replicate (List.length p.1) p.2.1)) ([], [])
theorem many_app (l m : List Pc) : many (l ++ m) = many l + many m := by simp [many]
theorem bd_fold (ifs : List UInt8) : ∀ (l : List Pc) {s : SS} {n : Nat}, s.Bd n → (l.foldl (SS.piece ifs) s).Bd (n + many l)
  | [], s, n, h => h
  | p :: l, s, n, h => (bd_fold ifs l (SS.bd_piece ifs p h)).le (by simp [many]; omega)
theorem idx_neg (l : List UInt8) (c : UInt8) : 0 ≤ indexByte l c ↔ c ∈ l := by
  induction l with
  | nil => simp [indexByte]
  | cons b l ih =>
    unfold indexByte
    have hg := indexByte_ge l c
    by_cases h : b = c
    · subst h; simp
    · have h' : (b == c) = false := by simpa using h
      have hc : ¬ c = b := fun e => h e.symm
      simp only [h', Bool.false_eq_true, if_false, List.mem_cons, hc, false_or, ← ih]
      by_cases h1 : indexByte l c = -1
      · simp [h1]
      · have h2 : (indexByte l c == -1) = false := by simpa using h1
        simp only [h2, Bool.false_eq_true, if_false]
        omega
section
variable {σ σ' : AS} {k : Value → AS → Prop}
theorem rpl_bool (c : Ce) : ∀ q : List Bool, RpL c q (bl q)
  | [] => rfl
  | b :: q => ⟨[.bool b], bl q, rfl, rfl, rpl_bool c q⟩

/-- The variables of Fields: out, now, mark; all of its blocks are F. -/
def SI (σ0 σ : AS) (ob nb mb : Nat) (F : List Nat) (nv : Value) (s : SS) : Prop :=
  ∃ ov M, F = [ob, nb, mb] ++ ownL ov ++ M ∧ σ.m ob = some (.cells [ov]) ∧ σ.m nb = some (.cells [nv]) ∧ σ.m mb = some (.cells [.bool s.mark]) ∧ OwnR (α := Fld) σ (List.range σ0.n ++ F) ov s.out ∧
    (match s.now with | none => nv = .pointer none ∧ M = [] | some x => ∃ p, nv = .pointer (some ⟨p, 0, none⟩) ∧ Mk σ M p x.1 x.2) ∧
    (ob ≠ nb ∧ ob ≠ mb ∧ nb ≠ mb) ∧ (∀ g, g ∈ ownL ov → g ∉ [ob, nb, mb]) ∧ (∀ g, g ∈ M → g ∉ [ob, nb, mb] ∧ g ∉ ownL ov) ∧ (∀ g, g ∈ F → σ0.n ≤ g) ∧ Chg [] σ0 σ
variable {σ0 : AS} {ob nb mb : Nat} {F : List Nat} {nv : Value} {s : SS}
theorem SI.ge (h : SI σ0 σ ob nb mb F nv s) : ∀ g, g ∈ F → σ0.n ≤ g := by obtain ⟨_, _, _, _, _, _, _, _, _, _, _, h, _⟩ := h; exact h
theorem SI.ch (h : SI σ0 σ ob nb mb F nv s) : Chg [] σ0 σ := by obtain ⟨_, _, _, _, _, _, _, _, _, _, _, _, h⟩ := h; exact h
theorem SI.nowb (h : SI σ0 σ ob nb mb F nv s) : σ.m nb = some (.cells [nv]) := by obtain ⟨_, _, _, _, h, _⟩ := h; exact h
theorem SI.markb (h : SI σ0 σ ob nb mb F nv s) : σ.m mb = some (.cells [.bool s.mark]) := by obtain ⟨_, _, _, _, _, h, _⟩ := h; exact h
theorem SI.gar (h : SI σ0 σ ob nb mb F nv s) (g : Chg [] σ σ') : SI σ0 σ' ob nb mb F nv s := by
  obtain ⟨ov, M, hF, h1, h2, h3, h4, h5, h6, h7, h8, h9, h10⟩ := h
  refine ⟨ov, M, hF, (g.m _ (σ.lt h1) (by simp)).trans h1, (g.m _ (σ.lt h2) (by simp)).trans h2, (g.m _ (σ.lt h3) (by simp)).trans h3, h4.chg g (fun _ _ => by simp) (fun _ h => by simp at h), ?_, h6, h7, h8, h9, h10.step g (fun _ h => by simp at h)⟩
  cases hs : s.now with
  | none => rw [hs] at h5; exact h5
  | some x =>
    rw [hs] at h5
    obtain ⟨p, e, hp⟩ := h5
    exact ⟨p, e, hp.chg g (fun _ _ => by simp)⟩
/-- mark is set. -/
theorem SI.setM (h : SI σ0 σ ob nb mb F nv s) (b : Bool) : SI σ0 (σ.put mb (.cells [.bool b])) ob nb mb F nv (s.setM b) ∧ Chg F σ (σ.put mb (.cells [.bool b])) := by
  obtain ⟨ov, M, hF, h1, h2, h3, h4, h5, h6, h7, h8, h9, h10⟩ := h
  have hin : mb ∈ F := by rw [hF]; simp
  have c : Chg [mb] σ (σ.put mb (.cells [.bool b])) := (Chg.refl _ _).put (.inl (by simp)) _
  refine ⟨⟨ov, M, hF, by rw [put_ne h6.2.1]; exact h1, by rw [put_ne h6.2.2]; exact h2, by rw [put_eq, h3]; rfl, h4.chg c (fun g hg => ?_) (fun g hg => ?_), ?_, h6, h7, h8, h9, h10.step c (fun g hg => ?_)⟩, c.wide (by simpa using hin)⟩
  · have := h7 g hg; simp at this ⊢; exact this.2.2
  · simp at hg; subst hg; exact .inl (List.mem_append_right _ hin)
  · show (match s.now with | none => _ | some x => _)
    cases hs : s.now with
    | none => rw [hs] at h5; exact h5
    | some x =>
      rw [hs] at h5
      obtain ⟨p, e, hp⟩ := h5
      exact ⟨p, e, hp.chg c (fun g hg => by have := (h8 g hg).1; simp at this ⊢; exact this.2.2)⟩
  · simp at hg; subst hg; exact .inr (h9 _ hin)
theorem there_i (h : SI σ0 σ ob nb mb F nv s) (hk : ∀ σ' F' p, SI σ0 σ' ob nb mb F' (.pointer (some ⟨p, 0, none⟩)) s.there → Chg F σ σ' → (∀ g, g ∈ F' → g ∈ F ∨ σ.n ≤ g) → k (.pointer (some ⟨p, 0, none⟩)) σ') :
    kCall Try.prog 19 [.pointer (some ⟨nb, 0, none⟩), .pointer (some ⟨mb, 0, none⟩)] σ k := by
  refine f19 ?_
  cases hs : s.now with
  | some x =>
    obtain ⟨h0, c0⟩ := h.setM false
    have hn := h.nowb
    have hm := h.markb
    have hn' := h0.nowb
    have hmark : (s.setM false) = s.there := by
      unfold SS.setM SS.there SS.cur
      rw [hs]; rfl
    rw [hmark] at h0
    obtain ⟨ov, M, hF, h1, h2, h3, h4, h5, _⟩ := h
    rw [hs] at h5
    obtain ⟨p, rfl, hp⟩ := h5
    (try simp (maxSteps := 1000000) (dsimp := false) (disch := (first | omega | (simp only [okR]; done) | (simp only [sizeR] <;> omega) | fail)) only [↓preR, postR, ↓w_join, Nat.reduceEqDiff, Nat.reduceAdd, Nat.reduceSub, Nat.reduceMul, Int.reduceNeg, Nat.reduceLT, Int.reduceToNat, Nat.reduceLeDiff, Nat.sub_zero, F19, hn, hm, hn'])
    exact hk _ F p h0 c0 (fun g hg => .inl hg)
  | none =>
    obtain ⟨ov, M, hF, h1, h2, h3, h4, h5, h6, h7, h8, h9, h10⟩ := h
    rw [hs] at h5
    obtain ⟨rfl, rfl⟩ := h5
    have l1 := σ.lt h1
    have l2 := σ.lt h2
    have l3 := σ.lt h3
    (try simp (maxSteps := 1000000) (dsimp := false) (disch := (first | omega | (simp only [okR]; done) | (simp only [sizeR] <;> omega) | fail)) only [↓preR, postR, ↓w_join, Nat.reduceEqDiff, Nat.reduceAdd, Nat.reduceSub, Nat.reduceMul, Int.reduceNeg, Nat.reduceLT, Int.reduceToNat, Nat.reduceLeDiff, Nat.sub_zero, F19, h2, h3])
    generalize hz : σ.new _ = σa
    have ca : Chg [] σ σa := by rw [← hz]; exact (Chg.refl _ _).new _
    have mk : Mk σa [σ.n] σ.n [] [] := by rw [← hz]; exact mk_new
    have nx : σ.n < σa.n := by rw [← hz, new_n]; omega
    have c1 : Chg [nb, mb] σ ((σa.put nb (.cells [.pointer (some ⟨σ.n, 0, none⟩)])).put mb (.cells [.bool false])) := ((ca.wide (by simp)).put (.inl (by simp)) _).put (.inl (by simp)) _
    have a1 := (ca.m _ l1 (by simp)).trans h1
    have a2 := (ca.m _ l2 (by simp)).trans h2
    have a3 := (ca.m _ l3 (by simp)).trans h3
    (try simp (maxSteps := 1000000) (dsimp := false) (disch := (first | omega | (simp only [okR]; done) | (simp only [sizeR] <;> omega) | fail)) only [↓preR, postR, ↓w_join, Nat.reduceEqDiff, Nat.reduceAdd, Nat.reduceSub, Nat.reduceMul, Int.reduceNeg, Nat.reduceLT, Int.reduceToNat, Nat.reduceLeDiff, Nat.sub_zero, a2, a3, put_ne h6.2.2])
    refine hk _ (F ++ [σ.n]) σ.n ⟨ov, [σ.n], by rw [hF]; simp, ?_, ?_, ?_, ?_, ⟨σ.n, rfl, ?_⟩, h6, h7, ?_, ?_, h10.step c1 ?_⟩ (c1.wide ?_) ?_
    · rw [put_ne h6.2.1, put_ne h6.1]; exact a1
    · rw [put_ne h6.2.2, put_eq, a2]; rfl
    · rw [put_eq, put_ne h6.2.2.symm, a3]; rfl
    · refine (h4.more (Y := List.range σ0.n ++ (F ++ [σ.n])) (fun g hg => ?_)).chg c1 (fun g hg => ?_) (fun g hg => ?_)
      · simp only [List.mem_append, List.mem_singleton] at hg ⊢
        rcases hg with hg | hg | rfl
        · exact .inl (.inl hg)
        · exact .inl (.inr hg)
        · exact .inr (Nat.le_refl _)
      · have := h7 g hg; simp at this ⊢; exact this.2
      · left; refine List.mem_append_right _ ?_; rw [hF]; simp at hg ⊢; rcases hg with rfl | rfl <;> simp
    · have hc : s.cur = ([], []) := by unfold SS.cur; rw [hs]; rfl
      rw [hc]
      exact mk.chg (S := [nb, mb]) (((Chg.refl _ _).put (.inl (by simp)) _).put (.inl (by simp)) _) (fun g hg => by simp at hg ⊢; omega)
    · intro g hg
      simp at hg
      subst hg
      refine ⟨by simp; omega, fun hg => ?_⟩
      have := h4.lt hg
      omega
    · intro g hg
      simp at hg
      rcases hg with hg | rfl
      · exact h9 g hg
      · exact h10.n
    · intro g hg
      right
      refine h9 g ?_
      rw [hF]; simp at hg ⊢; rcases hg with rfl | rfl <;> simp
    · intro g hg; rw [hF]; simp at hg ⊢; rcases hg with rfl | rfl <;> simp
    · intro g hg
      simp at hg
      rcases hg with hg | rfl
      · exact .inl hg
      · exact .inr (Nat.le_refl _)
theorem add_i {p : Nat} {t : List UInt8} (b : Bool) {n : Nat} (h : SI σ0 σ ob nb mb F (.pointer (some ⟨p, 0, none⟩)) s) (hm : s.mark = false) (hs : s.now = some s.cur) (hb : s.Bd n) (hn : n + t.length ≤ 1000000000)
    (hk : ∀ σ' F', SI σ0 σ' ob nb mb F' (.pointer (some ⟨p, 0, none⟩)) (s.add t b) → Chg F σ σ' → (∀ g, g ∈ F' → g ∈ F ∨ σ.n ≤ g) → k undef σ') :
    kCall Try.prog 22 [.pointer (some ⟨p, 0, none⟩), .string (bs t), .bool b] σ k := by
  obtain ⟨ov, M, hF, h1, h2, h3, h4, h5, h6, h7, h8, h9, h10⟩ := h
  rw [hs] at h5
  obtain ⟨p', he, hp⟩ := h5
  simp at he
  subst he
  obtain ⟨b1, b2⟩ := hb
  refine add_e b hp (by show List.length s.cur.1 + _ ≤ _; omega) (by rw [b1]; omega) ?_
  intro σ' M' mk' c' g'
  have l1 := σ.lt h1
  have l2 := σ.lt h2
  have l3 := σ.lt h3
  have n1 : ∀ g, g ∈ [ob, nb, mb] → g ∉ M := fun g hg hM => (h8 g hM).1 hg
  have inF : ∀ g, g ∈ M → g ∈ F := fun g hg => by rw [hF]; simp [hg]
  have sub : ∀ g, g ∈ [ob, nb, mb] ++ ownL ov ++ M' → g ∈ F ∨ σ.n ≤ g := by
    intro g hg
    simp only [List.mem_append] at hg
    rcases hg with hg | hg
    · left; rw [hF]; simp only [List.mem_append]; exact .inl hg
    · rcases g' g hg with h | h
      · exact .inl (inF g h)
      · exact .inr h
  refine hk σ' _ ⟨ov, M', rfl, (c'.m _ l1 (n1 _ (by simp))).trans h1, (c'.m _ l2 (n1 _ (by simp))).trans h2, ?_, ?_, ⟨p, rfl, mk'⟩, h6, h7, ?_, ?_, h10.step c' (fun g hg => .inr (h9 g (inF g hg)))⟩ (c'.wide inF) sub
  · rw [(c'.m _ l3 (n1 _ (by simp))).trans h3, hm]; rfl
  · refine (h4.more (Y := List.range σ0.n ++ ([ob, nb, mb] ++ ownL ov ++ (M' ++ M))) (fun g hg => ?_)).chg c' (fun g hg hM => (h8 g hM).2 hg) (fun g hg => .inl (by simp [hg])) |>.more (fun g hg => .inl ?_)
    · rw [List.mem_append] at hg
      rcases hg with hg | hg
      · exact .inl (List.mem_append_left _ hg)
      have : g ∈ F ∨ σ.n ≤ g := by
        simp only [List.mem_append] at hg
        rcases hg with hg | hg | hg
        · left; rw [hF]; simp only [List.mem_append]; exact .inl hg
        · exact sub g (by simp only [List.mem_append]; exact .inr hg)
        · exact .inl (inF g hg)
      rcases this with h | h
      · exact .inl (List.mem_append_right _ h)
      · exact .inr h
    · simp only [List.mem_append] at hg ⊢
      rcases hg with hg | hg | hg
      · exact .inl hg
      · exact .inr (.inl hg)
      · exact .inr (.inr (.inl hg))
  · intro g hg
    rcases g' g hg with h | h
    · exact h8 g h
    · refine ⟨by simp; omega, fun hg => ?_⟩
      have := h4.lt hg; omega
  · intro g hg
    rcases sub g hg with h | h
    · exact h9 g h
    · have := h10.n; omega
theorem ends_i {n : Nat} (h : SI σ0 σ ob nb mb F nv s) (hs : s.now.isSome = true) (hb : s.Bd n) (hn : n ≤ 1000000000)
    (hk : ∀ σ' F', SI σ0 σ' ob nb mb F' (.pointer none) s.ends → Chg F σ σ' → (∀ g, g ∈ F' → g ∈ F ∨ σ.n ≤ g) → k undef σ') :
    kCall Try.prog 20 [.pointer (some ⟨ob, 0, none⟩), .pointer (some ⟨nb, 0, none⟩)] σ k := by
  obtain ⟨ov, M, hF, h1, h2, h3, h4, h5, h6, h7, h8, h9, h10⟩ := h
  obtain ⟨x, hx⟩ := Option.isSome_iff_exists.1 hs
  have hcur : s.cur = x := by unfold SS.cur; rw [hx]; rfl
  rw [hx] at h5
  obtain ⟨p, rfl, hp⟩ := h5
  obtain ⟨b1, b2⟩ := hb
  rw [hcur] at b1 b2
  have l1 := σ.lt h1
  have l2 := σ.lt h2
  have l3 := σ.lt h3
  have n1 : ∀ g, g ∈ [ob, nb, mb] → g ∉ M := fun g hg hM => (h8 g hM).1 hg
  have inF : ∀ g, g ∈ M → g ∈ F := fun g hg => by rw [hF]; simp [hg]
  have inF2 : ∀ g, g ∈ ownL ov → g ∈ F := fun g hg => by rw [hF]; simp [hg]
  refine f20 ?_
  (try simp (maxSteps := 1000000) (dsimp := false) (disch := (first | omega | (simp only [okR]; done) | (simp only [sizeR] <;> omega) | fail)) only [↓preR, postR, ↓w_join, Nat.reduceEqDiff, Nat.reduceAdd, Nat.reduceSub, Nat.reduceMul, Int.reduceNeg, Nat.reduceLT, Int.reduceToNat, Nat.reduceLeDiff, Nat.sub_zero, F20, h1, h2])
  refine field_e hp (by show List.length x.1 ≤ _; omega) ?_
  intro σ1 w hw hwM c1
  have m1 := (c1.m _ l1 (n1 _ (by simp))).trans h1
  have m2 := (c1.m _ l2 (n1 _ (by simp))).trans h2
  have m3 := (c1.m _ l3 (n1 _ (by simp))).trans h3
  have o1 : OwnR (α := Fld) σ1 (List.range σ0.n ++ F) ov s.out := h4.chg c1 (fun g hg hM => (h8 g hM).2 hg) (fun g hg => .inl (List.mem_append_right _ (inF g hg)))
  have hn1 := c1.n
  have cwv : ∃ a c, w = .slice a x.2.length c := by
    obtain ⟨a, c, h, _⟩ := hw.val
    exact ⟨a, c, h⟩
  (try simp (maxSteps := 1000000) (dsimp := false) (disch := (first | omega | (simp only [okR]; done) | (simp only [sizeR] <;> omega) | fail)) only [↓preR, postR, ↓w_join, Nat.reduceEqDiff, Nat.reduceAdd, Nat.reduceSub, Nat.reduceMul, Int.reduceNeg, Nat.reduceLT, Int.reduceToNat, Nat.reduceLeDiff, Nat.sub_zero, m1])
  generalize hz : σ1.new _ = σ2
  have c2 : Chg [] σ1 σ2 := by rw [← hz]; exact (Chg.refl _ _).new _
  have nx : σ2.n = σ1.n + 1 := by rw [← hz]; rfl
  have m2n : σ2.m σ1.n = some (.cells [.string (bs x.1), w]) := by rw [← hz]; exact new_eq_
  have o2 : OwnR (α := Fld) σ2 (List.range σ0.n ++ σ2.n :: ([ob, nb, mb] ++ ownL ov)) ov s.out := (o1.chg c2 (fun _ _ => by simp) (fun _ h => by simp at h)).more (fun g hg => by
    rw [List.mem_append, List.mem_cons] at hg
    rcases hg with hg | rfl | hg
    · exact .inl (List.mem_append_left _ hg)
    · exact .inr (Nat.le_refl _)
    · left; refine List.mem_append_right _ ?_; rw [hF]; exact List.mem_append_left _ hg)
  have rw2 : RepL (sans σ2 (List.range σ0.n ++ σ2.n :: ([ob, nb, mb] ++ ownL ov))) w x.2 := by
    refine OwnR.repX (α := Bool) ⟨bl x.2, hw.chg c2 (fun _ _ => by simp), rpl_bool _ _⟩ (fun g hg => ?_)
    have h11 := h8 g (hwM g hg)
    have h12 := h9 g (inF g (hwM g hg))
    have := hw.lt hg
    simp only [List.mem_cons, List.mem_append, not_or, List.mem_range] at h11 ⊢
    exact ⟨by omega, by omega, h11.1, h11.2⟩
  have p1 := (c2.m _ (by omega) (by simp)).trans m1
  have p2 := (c2.m _ (by omega) (by simp)).trans m2
  have p3 := (c2.m _ (by omega) (by simp)).trans m3
  (try simp (maxSteps := 1000000) (dsimp := false) (disch := (first | omega | (simp only [okR]; done) | (simp only [sizeR] <;> omega) | fail)) only [↓preR, postR, ↓w_join, Nat.reduceEqDiff, Nat.reduceAdd, Nat.reduceSub, Nat.reduceMul, Int.reduceNeg, Nat.reduceLT, Int.reduceToNat, Nat.reduceLeDiff, Nat.sub_zero, p1])
  refine appR_by (α := Fld) Try.underlying31 (by kernel_rfl : infB Try.prog 27 2 40 = true) o2 (fun g hg => by simp [hg]) (m := 1) (ms := [x]) (news := [.string (bs x.1), w]) ?_ (RpL.one ⟨[.string (bs x.1)], [w], rfl, ⟨rfl, ?_⟩, ⟨w, rfl, rw2⟩⟩) rfl (by show (List.length s.out + 1) * 40 ≤ _; omega) (by show List.length s.out + 1 ≤ _; unfold maxLen; omega) ?_
  · rw [ldsM m2n _ 0 (by simp [Rp.sz])]; rfl
  · show List.length x.1 ≤ maxLen
    unfold maxLen; omega
  intro v' σ3 o3 c3 g3
  have okv := o3.ok
  have q1 := (c3.m _ (by omega) (fun h => h7 _ h (by simp))).trans p1
  have q2 := (c3.m _ (by omega) (fun h => h7 _ h (by simp))).trans p2
  have q3 := (c3.m _ (by omega) (fun h => h7 _ h (by simp))).trans p3
  (try simp (maxSteps := 1000000) (dsimp := false) (disch := (first | omega | (simp only [okR]; done) | (simp only [sizeR] <;> omega) | fail)) only [↓preR, postR, ↓w_join, Nat.reduceEqDiff, Nat.reduceAdd, Nat.reduceSub, Nat.reduceMul, Int.reduceNeg, Nat.reduceLT, Int.reduceToNat, Nat.reduceLeDiff, Nat.sub_zero, q1, q2, okv, put_ne h6.1])
  have hv' : ∀ g, g ∈ ownL v' → g ∉ [ob, nb, mb] := fun g hg => by
    rcases g3 g hg with h | h
    · exact h7 g h
    · simp; omega
  have cc : Chg [ob, nb] σ3 ((σ3.put ob (.cells [v'])).put nb (.cells [.pointer none])) := ((Chg.refl _ _).put (.inl (by simp)) _).put (.inl (by simp)) _
  have cF : Chg F σ ((σ3.put ob (.cells [v'])).put nb (.cells [.pointer none])) := (((c1.wide (T := F) inF).step c2 (by simp)).step c3 (fun g hg => .inl (inF2 g hg))).step cc (fun g hg => .inl (by rw [hF]; simp at hg ⊢; rcases hg with rfl | rfl <;> simp))
  have sub : ∀ g, g ∈ [ob, nb, mb] ++ ownL v' ++ [] → g ∈ F ∨ σ.n ≤ g := by
    intro g hg
    simp only [List.append_nil, List.mem_append] at hg
    rcases hg with hg | hg
    · left; rw [hF]; simp only [List.mem_append]; exact .inl (.inl hg)
    · rcases g3 g hg with h | h
      · exact .inl (inF2 g h)
      · right; omega
  refine hk _ ([ob, nb, mb] ++ ownL v' ++ []) ⟨v', [], rfl, ?_, ?_, ?_, ?_, ⟨rfl, rfl⟩, h6, hv', by simp, ?_, h10.step cF (fun g hg => .inr (h9 g hg))⟩ cF sub
  · rw [put_ne h6.1, put_eq, q1]; rfl
  · rw [put_eq, put_ne h6.1.symm, q2]; rfl
  · rw [put_ne h6.2.2.symm, put_ne h6.2.1.symm]; exact q3
  · show OwnR (α := Fld) _ _ v' (s.out ++ [s.cur])
    rw [hcur]
    refine (o3.chg cc (fun g hg hg2 => ?_) (fun g hg => .inl ?_)).more (fun g hg => .inl ?_)
    · have := hv' g hg; simp at this hg2; omega
    · refine List.mem_append_right _ ?_
      simp at hg ⊢; rcases hg with rfl | rfl <;> simp
    · rw [List.mem_append, List.append_nil, List.mem_append] at hg
      rcases hg with hg | hg | hg
      · exact List.mem_append_left _ hg
      · exact List.mem_append_right _ (List.mem_cons_of_mem _ (List.mem_append_left _ hg))
      · refine List.mem_append_right _ ?_
        rcases g3 g hg with h | h
        · exact List.mem_cons_of_mem _ (List.mem_append_right _ h)
        · rw [h]; exact List.mem_cons_self
  · intro g hg
    rcases sub g hg with h | h
    · exact h9 g h
    · have := h10.n; omega
end
end Go.Proofs.Ytaenpaeigoeebaa
