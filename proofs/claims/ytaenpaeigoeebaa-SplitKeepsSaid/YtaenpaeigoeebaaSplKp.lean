/- Of all bytes just those of ifs in what may be split are left out. Conditions: as each theorem says. -/
import Derived.Test.YtaenpaeigoeebaaSplHd
namespace Go.Proofs.Ytaenpaeigoeebaa
open E Go.Lib
set_option linter.unusedVariables false
set_option linter.unusedSimpArgs false
set_option maxHeartbeats 1000000
set_option maxRecDepth 20000

def cat (l : List Fd) : Fd := (l.flatMap (·.1), l.flatMap (·.2))
def join2 (a b : Fd) : Fd := (a.1 ++ b.1, a.2 ++ b.2)
def flat (s : SS) : Fd := join2 (cat s.out) s.cur
/-- What stays of a piece. -/
def keepT (ifs : List UInt8) (p : Pc) : List UInt8 := if p.2.2.2 then [] else p.1.filter fun c => p.2.1 || !p.2.2.1 || !decide (c ∈ ifs)
def keepP (ifs : List UInt8) (p : Pc) : Fd := (keepT ifs p, List.replicate (keepT ifs p).length p.2.1)
def wantM (ifs : List UInt8) (l : List Pc) : Fd := cat (l.map (keepP ifs))
theorem join_nil (a : Fd) : join2 a ([], []) = a := by simp [join2]
theorem join_assoc (a b c : Fd) : join2 (join2 a b) c = join2 a (join2 b c) := by simp [join2]
theorem cat_app (a b : List Fd) : cat (a ++ b) = join2 (cat a) (cat b) := by simp [cat, join2]
theorem cat_one (a : Fd) : cat [a] = a := by simp [cat]
theorem flat_ends (s : SS) : flat s.ends = flat s := by
  unfold flat SS.ends
  rw [cat_app, cat_one]
  exact join_nil _
theorem flat_there (s : SS) : flat s.there = flat s := rfl
theorem flat_setM (s : SS) (b : Bool) : flat (s.setM b) = flat s := rfl
theorem flat_fin (s : SS) : flat s.fin = flat s := by
  unfold SS.fin; split
  · exact flat_ends s
  · rfl
theorem flat_add (s : SS) (t : List UInt8) (b : Bool) : flat (s.add t b) = join2 (flat s) (t, List.replicate t.length b) := by
  unfold flat
  rw [join_assoc]; rfl
theorem flat_sign (ifs : List UInt8) (s : SS) (c : UInt8) : flat (s.sign ifs c) = join2 (flat s) (if c ∈ ifs then ([], []) else ([c], [false])) := by
  unfold SS.sign
  split
  · rw [join_nil]
    split
    · split
      · rw [flat_setM, flat_ends]
      · rfl
    · split
      · rfl
      · rw [flat_ends, flat_there]
  · rw [flat_add]; rfl
theorem flat_signs (ifs : List UInt8) : ∀ (t : List UInt8) (s : SS), flat (t.foldl (SS.sign ifs) s) = join2 (flat s) (t.filter (fun c => !decide (c ∈ ifs)), List.replicate (t.filter (fun c => !decide (c ∈ ifs))).length false)
  | [], s => by simp [join_nil]
  | c :: t, s => by
    rw [List.foldl_cons, flat_signs ifs t, flat_sign, join_assoc]
    congr 1
    by_cases h : c ∈ ifs
    · simp [h, join2]
    · simp [h, join2, List.replicate_succ]
theorem filter_tt {α : Type} (l : List α) : l.filter (fun _ => true) = l := List.filter_eq_self.2 (by simp)
theorem flat_piece (ifs : List UInt8) (s : SS) (p : Pc) : flat (s.piece ifs p) = join2 (flat s) (keepP ifs p) := by
  obtain ⟨t, q, sp, br⟩ := p
  unfold SS.piece keepP keepT
  dsimp only
  cases br
  · cases q
    · cases sp
      · have e : (if t = [] then s else s.add t false).cur = (if t = [] then s else s.add t false).cur := rfl
        simp only [Bool.false_eq_true, if_false, Bool.false_or, Bool.not_false, Bool.true_or, filter_tt]
        by_cases ht : t = []
        · subst ht; simp [join_nil]
        · rw [if_neg ht, flat_add]
      · simp only [Bool.false_eq_true, if_false, if_true, Bool.false_or, Bool.not_true]
        exact flat_signs ifs t s
    · simp only [Bool.false_eq_true, if_false, if_true, Bool.true_or, filter_tt]
      exact flat_add s t true
  · simp only [if_true, List.length_nil, List.replicate_zero, join_nil]
    rw [flat_setM, flat_fin]
theorem flat_pieces (ifs : List UInt8) : ∀ (l : List Pc) (s : SS), flat (l.foldl (SS.piece ifs) s) = join2 (flat s) (wantM ifs l)
  | [], s => by simp [wantM, cat, join_nil]
  | p :: l, s => by
    rw [List.foldl_cons, flat_pieces ifs l, flat_piece, join_assoc]
    congr 1
theorem keep_pure (ifs : List UInt8) (l : List Pc) : cat (fieldsM l ifs) = wantM ifs l := by
  have h1 : (fieldsS l ifs).now = none := by
    unfold fieldsS SS.fin
    split
    · rfl
    · rename_i h; simpa using h
  have h2 : flat (fieldsS l ifs) = cat (fieldsM l ifs) := by
    unfold flat SS.cur
    rw [h1]
    exact join_nil _
  rw [← h2]
  unfold fieldsS
  rw [flat_fin, flat_pieces]
  show join2 (join2 (cat []) ([], [])) _ = _
  simp [join2, cat]
/-- Each field has as many marks as bytes. -/
def Ev (s : SS) : Prop := (∀ f ∈ s.out, f.2.length = f.1.length) ∧ s.cur.2.length = s.cur.1.length
theorem ev_ends {s : SS} (h : Ev s) : Ev s.ends := ⟨fun f hf => by
  simp only [SS.ends, List.mem_append, List.mem_singleton] at hf
  rcases hf with hf | rfl
  · exact h.1 f hf
  · exact h.2, rfl⟩
theorem ev_add {s : SS} (h : Ev s) (t : List UInt8) (b : Bool) : Ev (s.add t b) := ⟨h.1, by
  show (s.cur.2 ++ _).length = (s.cur.1 ++ _).length
  simp [h.2]⟩
theorem ev_fin {s : SS} (h : Ev s) : Ev s.fin := by
  unfold SS.fin; split
  · exact ev_ends h
  · exact h
theorem ev_sign {s : SS} (ifs : List UInt8) (c : UInt8) (h : Ev s) : Ev (s.sign ifs c) := by
  unfold SS.sign
  split
  · split
    · split
      · exact ev_ends h
      · exact h
    · split
      · exact h
      · exact ev_ends (s := s.there) h
  · exact ev_add h _ _
theorem ev_signs (ifs : List UInt8) : ∀ (t : List UInt8) {s : SS}, Ev s → Ev (t.foldl (SS.sign ifs) s)
  | [], _, h => h
  | c :: t, _, h => ev_signs ifs t (ev_sign ifs c h)
theorem ev_piece {s : SS} (ifs : List UInt8) (p : Pc) (h : Ev s) : Ev (s.piece ifs p) := by
  unfold SS.piece
  split
  · exact ev_fin h
  split
  · exact ev_add h _ _
  split
  · exact ev_signs ifs _ h
  split
  · exact h
  · exact ev_add h _ _
theorem ev_pieces (ifs : List UInt8) : ∀ (l : List Pc) {s : SS}, Ev s → Ev (l.foldl (SS.piece ifs) s)
  | [], _, h => h
  | p :: l, _, h => ev_pieces ifs l (ev_piece ifs p h)
theorem ev_fields (ifs : List UInt8) (l : List Pc) : ∀ f ∈ fieldsM l ifs, f.2.length = f.1.length :=
  (ev_fin (ev_pieces ifs l (s := SS.zero) ⟨by simp [SS.zero], rfl⟩)).1
theorem keepT_len (ifs : List UInt8) (p : Pc) : (keepT ifs p).length ≤ p.1.length := by
  unfold keepT; split
  · simp
  · exact List.length_filter_le _ _
theorem want_len (ifs : List UInt8) (l : List Pc) : (wantM ifs l).1.length ≤ many l ∧ (wantM ifs l).2.length = (wantM ifs l).1.length := by
  induction l with
  | nil => simp [wantM, cat]
  | cons p l ih =>
    have e : many (p :: l) = (p.1.length + 1) + many l := by simp [many]
    have e2 : wantM ifs (p :: l) = join2 (keepP ifs p) (wantM ifs l) := rfl
    have := keepT_len ifs p
    rw [e, e2]
    simp only [join2, keepP, List.length_append, List.length_replicate]
    omega
theorem cat_le (l : List Fd) (i : Nat) : (cat (l.take i)).1.length ≤ (cat l).1.length := by
  have : cat l = join2 (cat (l.take i)) (cat (l.drop i)) := by rw [← cat_app, List.take_append_drop]
  rw [this]; simp [join2]
end Go.Proofs.Ytaenpaeigoeebaa
