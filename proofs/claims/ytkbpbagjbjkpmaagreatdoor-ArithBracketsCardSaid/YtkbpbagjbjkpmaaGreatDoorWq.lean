/- An expression within brackets, and between blanks, is what it is without: as plain data. Conditions: as each theorem says. -/
import Derived.Test.YtkbpbagjbjkpmaaGreatDoorWp
namespace Go.Proofs.YtkbpbagjbjkpmaaGreatDoor
open E Go.Lib
open Rp
set_option linter.unusedVariables false
set_option linter.unusedSimpArgs false
set_option maxHeartbeats 1000000
set_option maxRecDepth 20000

def blkB (c : UInt8) : Prop := c = 32 ∨ c = 9 ∨ c = 10
instance (c : UInt8) : Decidable (blkB c) := inferInstanceAs (Decidable (_ ∨ _))
def inert (c : UInt8) : Prop := blkB c ∨ c = 41
theorem skip_cons (c : UInt8) (t : Str) : skipB (c :: t) = if blkB c then skipB t else c :: t := by
  unfold skipB trimLeftS
  rw [List.dropWhile_cons]
  by_cases h : blkB c
  · rw [if_pos h, if_pos]
    rcases h with rfl | rfl | rfl <;> decide
  · rw [if_neg h, if_neg]
    intro h2
    apply h
    have h3 : c ∈ blk3 := by simpa using h2
    simpa [blkB] using h3
theorem skip_all {t : Str} (h : ∀ c, c ∈ t → blkB c) : skipB t = [] := by
  induction t with
  | nil => rfl
  | cons c t ih =>
    rw [skip_cons, if_pos (h c (by simp))]
    exact ih fun d hd => h d (by simp [hd])
theorem skip_app {l t : Str} : skipB (l ++ t) = if skipB l = [] then skipB t else skipB l ++ t := by
  induction l with
  | nil =>
    have e : skipB [] = [] := rfl
    rw [e, if_pos rfl]; rfl
  | cons c l ih =>
    rw [List.cons_append, skip_cons, skip_cons]
    by_cases h : blkB c
    · rw [if_pos h, if_pos h]
      exact ih
    · rw [if_neg h, if_neg h, if_neg (by simp)]
      rfl
theorem inert_name {c : UInt8} (h : inert c) : alphaB c = false ∧ digitB c = false := by
  rcases h with (rfl | rfl | rfl) | rfl <;> decide +kernel
theorem inert_op {c : UInt8} (h : inert c) (a : UInt8) : rankOf [a, c] = 0 ∧ asgn [a, c] = false := by
  rcases h with (rfl | rfl | rfl) | rfl <;> exact ⟨by unfold rankOf; split <;> simp_all, by unfold asgn; split <;> simp_all⟩
/-- What a part may end at. -/
def Inn (t : Str) : Prop := t = [] ∨ ∃ c t', t = c :: t' ∧ inert c
theorem inn_blank {t : Str} (h : ∀ c, c ∈ t → blkB c) : Inn t := by
  cases t with
  | nil => exact .inl rfl
  | cons c t => exact .inr ⟨c, t, rfl, .inl (h c (by simp))⟩
theorem front_app {t : Str} (h : Inn t) : ∀ (i : Nat) (l : Str), frontF i (l ++ t) = frontF i l
  | i, [] => by
    rcases h with rfl | ⟨c, t', rfl, hc⟩
    · rfl
    · obtain ⟨h1, h2⟩ := inert_name hc
      show (if alphaB c || (decide (0 < i) && digitB c) then _ else 0) = 0
      rw [h1, h2, Bool.and_false, Bool.or_false, if_neg (by decide)]
  | i, c :: l => by
    show (if alphaB c || (decide (0 < i) && digitB c) then 1 + frontF (i + 1) (l ++ t) else 0) = (if alphaB c || (decide (0 < i) && digitB c) then 1 + frontF (i + 1) l else 0)
    rw [front_app h (i + 1) l]
theorem next_app {l t : Str} (h : Inn t) (hl : l ≠ []) : nextP (l ++ t) = nextP l := by
  match l with
  | [] => exact absurd rfl hl
  | [a] =>
    rcases h with rfl | ⟨c, t', rfl, hc⟩
    · rfl
    · obtain ⟨h1, h2⟩ := inert_op hc a
      show (if rankOf [a, c] ≠ 0 ∨ asgn [a, c] = true then [a, c] else [a]) = [a]
      rw [if_neg]
      rintro (h | h)
      · exact h h1
      · rw [h2] at h; cases h
  | a :: b :: l => rfl
/-- Two texts that are read alike. -/
structure Sim (S : Str → Str → Prop) : Prop where
  skip : ∀ {l l'}, S l l' → S (skipB l) (skipB l')
  nil : ∀ {l'}, S [] l' → skipB l' = l' → l' = [] ∨ ∃ t, l' = 41 :: t
  head : ∀ {c t l'}, S (c :: t) l' → skipB (c :: t) = c :: t → ∃ t', l' = c :: t' ∧ S t t'
  cut : ∀ {l l'} i, S l l' → frontF i l' = frontF i l ∧ l'.take (frontF i l) = l.take (frontF i l) ∧ S (l.drop (frontF i l)) (l'.drop (frontF i l))
  next : ∀ {l l'}, S l l' → skipB l = l → skipB l' = l' → (nextP l' = nextP l ∧ S (l.drop (nextP l).length) (l'.drop (nextP l).length)) ∨ (l = [] ∧ nextP l' = [41])
def SA (l l' : Str) : Prop := ∃ t, (∀ c, c ∈ t → blkB c) ∧ l' = l ++ t
def SZ (l l' : Str) : Prop := SA l' l
def SB (t : Str) (l l' : Str) : Prop := l' = l ++ 41 :: t
theorem take_pre {l t : Str} {n : Nat} (h : n ≤ l.length) : (l ++ t).take n = l.take n ∧ (l ++ t).drop n = l.drop n ++ t := ⟨List.take_append_of_le_length h, List.drop_append_of_le_length h⟩
theorem simA : Sim SA where
  skip := by
    rintro l l' ⟨t, ht, rfl⟩
    rw [skip_app]
    split
    · rename_i h
      rw [h, skip_all ht]
      exact ⟨[], by simp, rfl⟩
    · exact ⟨t, ht, rfl⟩
  nil := by
    rintro l' ⟨t, ht, h⟩ hs
    rw [List.nil_append] at h
    rw [h, skip_all ht] at hs
    rw [h]
    exact .inl hs.symm
  head := by
    rintro c t l' ⟨u, hu, rfl⟩ _
    exact ⟨t ++ u, rfl, u, hu, rfl⟩
  cut := by
    rintro l l' i ⟨t, ht, rfl⟩
    obtain ⟨h1, h2⟩ := take_pre (t := t) (front_le i l)
    rw [h1, h2]
    exact ⟨front_app (inn_blank ht) i l, rfl, t, ht, rfl⟩
  next := by
    rintro l l' ⟨t, ht, rfl⟩ h1 h2
    by_cases hl : l = []
    · subst hl
      rw [List.nil_append] at h2 ⊢
      rw [skip_all ht] at h2
      rw [← h2]
      exact .inl ⟨rfl, [], by simp, rfl⟩
    · have := next_len l
      rw [next_app (inn_blank ht) hl, (take_pre this).2]
      exact .inl ⟨rfl, t, ht, rfl⟩
theorem simZ : Sim SZ where
  skip := fun h => simA.skip h
  nil := by
    rintro l' ⟨t, ht, h⟩ hs
    exact .inl (List.append_eq_nil_iff.1 h.symm).1
  head := by
    rintro c t l' ⟨u, hu, h⟩ hs
    cases l' with
    | nil =>
      rw [List.nil_append] at h
      rw [h, skip_all hu] at hs
      rw [← hs] at h
      cases h
    | cons d l' =>
      injection h with h1 h2
      subst h1
      exact ⟨l', rfl, u, hu, h2⟩
  cut := by
    rintro l l' i ⟨t, ht, rfl⟩
    rw [front_app (inn_blank ht)]
    obtain ⟨h1, h2⟩ := take_pre (t := t) (front_le i l')
    rw [h1, h2]
    exact ⟨rfl, rfl, t, ht, rfl⟩
  next := by
    rintro l l' ⟨t, ht, rfl⟩ h1 h2
    by_cases hl : l' = []
    · subst hl
      rw [List.nil_append] at h1 ⊢
      rw [skip_all ht] at h1
      rw [← h1]
      exact .inl ⟨rfl, [], by simp, rfl⟩
    · have := next_len l'
      rw [next_app (inn_blank ht) hl, (take_pre this).2]
      exact .inl ⟨rfl, t, ht, rfl⟩
theorem inn41 (t : Str) : Inn (41 :: t) := .inr ⟨41, t, rfl, .inr rfl⟩
theorem skip41 (t : Str) : skipB (41 :: t) = 41 :: t := by rw [skip_cons, if_neg (by unfold blkB; decide)]
theorem simB (t : Str) : Sim (SB t) where
  skip := by
    rintro l l' rfl
    rw [skip_app]
    split
    · rename_i h
      rw [h, skip41]
      rfl
    · rfl
  nil := by
    rintro l' rfl _
    exact .inr ⟨t, rfl⟩
  head := by
    rintro c u l' rfl _
    exact ⟨u ++ 41 :: t, rfl, rfl⟩
  cut := by
    rintro l l' i rfl
    obtain ⟨h1, h2⟩ := take_pre (t := 41 :: t) (front_le i l)
    rw [h1, h2]
    exact ⟨front_app (inn41 t) i l, rfl, rfl⟩
  next := by
    rintro l l' rfl h1 h2
    by_cases hl : l = []
    · subst hl
      exact .inr ⟨rfl, (next_one (.inl rfl) _).2 ⟨t, rfl⟩⟩
    · have := next_len l
      rw [next_app (inn41 t) hl, (take_pre this).2]
      exact .inl ⟨rfl, rfl⟩
theorem ask_at (look : Str → Int × Int) (st : ASt) (l name : Str) : askP look (st.at l) name = ((askP look st name).1, (askP look st name).2.at l) := by
  unfold askP
  show (if st.live = true then _ else _) = _
  split
  · have e : lookS (st.at l).sets name = lookS st.sets name := rfl
    rw [e]
    cases lookS st.sets name <;> rfl
  · rfl
theorem does_at (op : Str) (a b : Int) (st : ASt) (l : Str) : doesP op a b (st.at l) = ((doesP op a b st).1, (doesP op a b st).2.at l) := by
  unfold doesP
  show (if st.live = true then _ else _) = _
  split <;> rfl
theorem push_at (st : ASt) (l name : Str) (v : Int) : pushP (st.at l) name v = (pushP st name v).at l := by
  unfold pushP
  show (if st.live = true then _ else _) = _
  split <;> rfl
theorem ask_left (look : Str → Int × Int) (st : ASt) (name : Str) : (askP look st name).2.left = st.left := by
  unfold askP
  split
  · split <;> rfl
  · rfl
theorem does_left (op : Str) (a b : Int) (st : ASt) : (doesP op a b st).2.left = st.left := by
  unfold doesP
  split <;> rfl
theorem push_left (st : ASt) (name : Str) (v : Int) : (pushP st name v).left = st.left := by
  unfold pushP
  split <;> rfl
theorem ev_opnd {look : Str → Int × Int} {f : Nat} {st : ASt} {c : UInt8} {t : Str} (hl : st.skip.left = c :: t) : ev look (f + 1) .opnd st =
    if c = 43 ∨ c = 45 ∨ c = 33 ∨ c = 126 then (match ev look f .opnd (st.skip.at t) with | none => none | some (n, s1) => some (signV c n, s1))
    else if c = 40 then (match ev look f .set (st.skip.at t) with | none => none | some (n, s1) => match skipB s1.left with | 41 :: t2 => some (n, s1.at t2) | _ => none)
    else if alphaB c = true then some (askP look (st.skip.at ((c :: t).drop (frontF 0 (c :: t)))) ((c :: t).take (frontF 0 (c :: t))))
    else if digitB c = true then (match numP ((c :: t).take (frontF 1 (c :: t))) with | none => none | some n => if 9223372036854775808 ≤ n then none else some ((n : Int), st.skip.at ((c :: t).drop (frontF 1 (c :: t)))))
    else none := by
  conv => lhs; unfold ev
  simp only [hl]
  split
  · generalize ev look f .opnd _ = e
    cases e with
    | none => rfl
    | some q => rfl
  split
  · generalize ev look f .set _ = e
    cases e with
    | none => rfl
    | some q => rfl
  split
  · rfl
  split
  · generalize numP _ = e
    cases e with
    | none => rfl
    | some q => rfl
  · rfl
theorem ev_opnd_nil {look : Str → Int × Int} {f : Nat} {st : ASt} (hl : st.skip.left = []) : ev look (f + 1) .opnd st = none := by
  conv => lhs; unfold ev
  simp only [hl]
theorem ev_sim {S : Str → Str → Prop} (hS : Sim S) {look : Str → Int × Int} : ∀ (f : Nat) (md : Md) (st s2 : ASt) (v : Int) (l : Str), ev look f md st = some (v, s2) → S st.left l → ∃ l', ev look f md (st.at l) = some (v, s2.at l') ∧ S s2.left l' := by
  intro f
  induction f with
  | zero => intro md st s2 v l h; cases h
  | succ f ih =>
    intro md st s2 v l h hs
    have hk := hS.skip hs
    have e1 := skip_skip st.left
    have e2 := skip_skip l
    have esk : (st.at l).skip = st.skip.at (skipB l) := rfl
    have esl : st.skip.left = skipB st.left := rfl
    cases md with
    | set =>
      obtain ⟨c1, c2, c3⟩ := hS.cut 0 hk
      have r1 := hS.skip c3
      by_cases hc : frontF 0 (skipB st.left) ≠ 0 ∧ asgn (nextP (skipB ((skipB st.left).drop (frontF 0 (skipB st.left))))) = true
      · rcases hS.next r1 (skip_skip _) (skip_skip _) with ⟨n1, n2⟩ | ⟨n1, n2⟩
        rotate_left
        · rw [n1] at hc; exact absurd hc.2 (by decide)
        rw [ev_set_in (n := frontF 0 (skipB st.left)) rfl hc.1 rfl hc.2] at h
        rw [ev_set_in (s0 := st.at l) (n := frontF 0 (skipB st.left)) (op := nextP (skipB ((skipB st.left).drop (frontF 0 (skipB st.left))))) c1 hc.1 n1 hc.2]
        rw [esl] at h
        rw [show (st.at l).skip.left = skipB l from rfl]
        cases hq : ev look f .set (st.skip.at ((skipB ((skipB st.left).drop (frontF 0 (skipB st.left)))).drop (nextP (skipB ((skipB st.left).drop (frontF 0 (skipB st.left))))).length)) with
        | none => rw [hq] at h; cases h
        | some q =>
          obtain ⟨v1, s1⟩ := q
          rw [hq] at h
          obtain ⟨l1, h1, h2⟩ := ih _ _ _ _ _ hq n2
          have h1' : ev look f .set ((st.at l).skip.at ((skipB ((skipB l).drop (frontF 0 (skipB st.left)))).drop (nextP (skipB ((skipB st.left).drop (frontF 0 (skipB st.left))))).length)) = some (v1, s1.at l1) := h1
          rw [h1', c2]
          simp only at h ⊢
          injection h with h
          injection h with h3 h4
          refine ⟨l1, ?_, ?_⟩
          · rw [← h3, ← h4]
            split
            · rw [push_at]
            · rw [ask_at, does_at, push_at]
          · rw [← h4, push_left]
            split
            · exact h2
            · rw [does_left, ask_left]; exact h2
      · have hc' : ¬ (frontF 0 (st.at l).skip.left ≠ 0 ∧ asgn (nextP (skipB ((st.at l).skip.left.drop (frontF 0 (st.at l).skip.left)))) = true) := by
          intro h5
          rw [show (st.at l).skip.left = skipB l from rfl, c1] at h5
          rcases hS.next r1 (skip_skip _) (skip_skip _) with ⟨n1, n2⟩ | ⟨n1, n2⟩
          · rw [n1] at h5; exact hc h5
          · rw [n2] at h5; exact absurd h5.2 (by decide)
        rw [ev_set_out hc] at h
        rw [ev_set_out hc', esk]
        exact ih _ _ _ _ _ h hk
    | choice =>
      cases hq : ev look f (.rank 1) st with
      | none => rw [ev_choice_none hq] at h; cases h
      | some q =>
        obtain ⟨c, s1⟩ := q
        obtain ⟨l1, h1, h2⟩ := ih _ _ _ _ _ hq hs
        have h3 := hS.skip h2
        by_cases h63 : ∃ t, skipB s1.left = 63 :: t
        · obtain ⟨t, ht⟩ := h63
          rw [ht] at h3
          obtain ⟨t', ht', hst⟩ := hS.head h3 (by rw [← ht]; exact skip_skip _)
          rw [ev_choice_in hq ht] at h
          rw [ev_choice_in h1 (s1 := s1.at l1) ht']
          cases hq2 : ev look f .set ((s1.at t).pass (decide (¬ c = 0))) with
          | none => rw [hq2] at h; cases h
          | some q2 =>
            obtain ⟨a, s3⟩ := q2
            rw [hq2] at h
            obtain ⟨l2, h4, h5⟩ := ih _ _ _ _ t' hq2 hst
            have h4' : ev look f .set (((s1.at l1).at t').pass (decide (¬ c = 0))) = some (a, s3.at l2) := h4
            rw [h4']
            simp only at h ⊢
            have h6 := hS.skip h5
            by_cases h58 : ∃ t, skipB s3.left = 58 :: t
            · obtain ⟨t2, ht2⟩ := h58
              rw [ht2] at h6
              obtain ⟨t2', ht2', hst2⟩ := hS.head h6 (by rw [← ht2]; exact skip_skip _)
              have ht3 : skipB (s3.at l2).left = 58 :: t2' := ht2'
              simp only [ht2] at h
              simp only [ht3]
              cases hq3 : ev look f .choice (((s3.un s1.over).at t2).pass (decide (c = 0))) with
              | none => rw [hq3] at h; cases h
              | some q3 =>
                obtain ⟨b, s4⟩ := q3
                rw [hq3] at h
                obtain ⟨l3, h7, h8⟩ := ih _ _ _ _ t2' hq3 hst2
                have h7' : ev look f .choice ((((s3.at l2).un (s1.at l1).over).at t2').pass (decide (c = 0))) = some (b, s4.at l3) := h7
                rw [h7']
                simp only at h ⊢
                injection h with h
                injection h with h9 h10
                exact ⟨l3, by rw [← h9, ← h10]; rfl, by rw [← h10]; exact h8⟩
            · exfalso
              revert h
              split
              · rename_i t2 ht2; exact absurd ⟨t2, ht2⟩ h58
              · exact fun h => by cases h
        · have hno : ∀ t, ¬ skipB s1.left = 63 :: t := fun t ht => h63 ⟨t, ht⟩
          have hno' : ∀ t, ¬ skipB (s1.at l1).left = 63 :: t := by
            intro t ht
            have ht : skipB l1 = 63 :: t := ht
            cases hs1 : skipB s1.left with
            | nil =>
              rw [hs1] at h3
              rcases hS.nil h3 (skip_skip _) with h | ⟨u, h⟩
              · rw [h] at ht; cases ht
              · rw [h] at ht; injection ht with ht; cases ht
            | cons d u =>
              rw [hs1] at h3
              obtain ⟨u', hu, _⟩ := hS.head h3 (by rw [← hs1]; exact skip_skip _)
              rw [hu] at ht
              injection ht with ht _
              exact hno u (by rw [hs1, ht])
          rw [ev_choice_out hq hno] at h
          rw [ev_choice_out h1 hno']
          injection h with h
          injection h with h4 h5
          exact ⟨skipB l1, by rw [← h4, ← h5]; rfl, by rw [← h5]; exact h3⟩
    | rank r =>
      by_cases hr : 10 < r
      · rw [ev_rank_hi hr] at h ⊢
        exact ih _ _ _ _ _ h hs
      · rw [ev_rank_lo hr] at h ⊢
        cases hq : ev look f (.rank (r + 1)) st with
        | none => rw [hq] at h; cases h
        | some q =>
          obtain ⟨a, s1⟩ := q
          rw [hq] at h
          obtain ⟨l1, h1, h2⟩ := ih _ _ _ _ _ hq hs
          rw [h1]
          exact ih _ _ _ _ _ h h2
    | loop r a =>
      have hn := hS.next hk e1 e2
      by_cases hr : rankOf (nextP st.skip.left) = r ∧ ¬ r = 0
      · rcases hn with ⟨n1, n2⟩ | ⟨n1, n2⟩
        rotate_left
        · have : rankOf (nextP st.skip.left) = 0 := by rw [esl, n1]; rfl
          omega
        have n1' : nextP (st.at l).skip.left = nextP st.skip.left := n1
        rw [ev_loop_in hr.1 hr.2] at h
        rw [ev_loop_in (st := st.at l) (by rw [n1']; exact hr.1) hr.2, n1']
        cases hq : ev look f (.rank (r + 1)) ((st.skip.at (st.skip.left.drop (nextP st.skip.left).length)).pass (if r = 1 then decide (a = 0) else if r = 2 then decide (¬ a = 0) else true)) with
        | none => rw [hq] at h; cases h
        | some q =>
          obtain ⟨b, s1⟩ := q
          rw [hq] at h
          obtain ⟨l1, h1, h2⟩ := ih _ _ _ _ _ hq n2
          have h1' : ev look f (.rank (r + 1)) (((st.at l).skip.at ((st.at l).skip.left.drop (nextP st.skip.left).length)).pass (if r = 1 then decide (a = 0) else if r = 2 then decide (¬ a = 0) else true)) = some (b, s1.at l1) := h1
          rw [h1']
          simp only at h ⊢
          by_cases hr1 : r = 1
          · rw [if_pos hr1] at h ⊢
            exact ih _ _ _ _ _ h h2
          rw [if_neg hr1] at h ⊢
          by_cases hr2 : r = 2
          · rw [if_pos hr2] at h ⊢
            exact ih _ _ _ _ _ h h2
          rw [if_neg hr2] at h ⊢
          have e3 : (s1.at l1).un (st.at l).over = (s1.un st.over).at l1 := rfl
          rw [e3, does_at]
          exact ih _ _ _ _ _ h (by rw [does_left]; exact h2)
      · have hout : ∀ s0 : ASt, ¬ (rankOf (nextP s0.skip.left) = r ∧ ¬ r = 0) → ev look (f + 1) (.loop r a) s0 = some (a, s0.skip) := by
          intro s0 h0
          conv => lhs; unfold ev
          simp only
          rw [if_neg h0]
        rw [hout st hr] at h
        have hr' : ¬ (rankOf (nextP (st.at l).skip.left) = r ∧ ¬ r = 0) := by
          rcases hn with ⟨n1, n2⟩ | ⟨n1, n2⟩
          · rw [show nextP (st.at l).skip.left = nextP st.skip.left from n1]; exact hr
          · rw [show nextP (st.at l).skip.left = [41] from n2]
            rintro ⟨h5, h6⟩
            exact h6 h5.symm
        rw [hout _ hr']
        injection h with h
        injection h with h4 h5
        exact ⟨skipB l, by rw [← h4, ← h5]; rfl, by rw [← h5]; exact hk⟩
    | opnd =>
      cases hl : skipB st.left with
      | nil => rw [ev_opnd_nil hl] at h; cases h
      | cons c t =>
        rw [hl] at hk e1
        obtain ⟨t', hl', hst⟩ := hS.head hk e1
        rw [ev_opnd hl] at h
        rw [ev_opnd (st := st.at l) hl']
        split
        · rename_i hc
          rw [if_pos hc] at h
          cases hq : ev look f .opnd (st.skip.at t) with
          | none => rw [hq] at h; cases h
          | some q =>
            obtain ⟨n, s1⟩ := q
            rw [hq] at h
            obtain ⟨l1, h1, h2⟩ := ih _ _ _ _ t' hq hst
            have h1' : ev look f .opnd ((st.at l).skip.at t') = some (n, s1.at l1) := h1
            rw [h1']
            injection h with h
            injection h with h4 h5
            exact ⟨l1, by rw [← h4, ← h5], by rw [← h5]; exact h2⟩
        rename_i hc
        rw [if_neg hc] at h
        split
        · rename_i hc
          rw [if_pos hc] at h
          cases hq : ev look f .set (st.skip.at t) with
          | none => rw [hq] at h; cases h
          | some q =>
            obtain ⟨n, s1⟩ := q
            rw [hq] at h
            obtain ⟨l1, h1, h2⟩ := ih _ _ _ _ t' hq hst
            have h1' : ev look f .set ((st.at l).skip.at t') = some (n, s1.at l1) := h1
            rw [h1']
            have h3 := hS.skip h2
            by_cases h41 : ∃ t, skipB s1.left = 41 :: t
            · obtain ⟨t2, ht2⟩ := h41
              rw [ht2] at h3
              obtain ⟨t3, ht3, hst3⟩ := hS.head h3 (by rw [← ht2]; exact skip_skip _)
              have ht3' : skipB (s1.at l1).left = 41 :: t3 := ht3
              simp only [ht2] at h
              simp only [ht3']
              injection h with h
              injection h with h4 h5
              exact ⟨t3, by rw [← h4, ← h5]; rfl, by rw [← h5]; exact hst3⟩
            · exfalso
              revert h
              simp only
              split
              · rename_i t2 ht2; exact absurd ⟨t2, ht2⟩ h41
              · exact fun h => by cases h
        rename_i hc2
        rw [if_neg hc2] at h
        obtain ⟨f1, f2, f3⟩ := hS.cut 0 hk
        obtain ⟨g1, g2, g3⟩ := hS.cut 1 hk
        rw [hl'] at f1 f2 f3 g1 g2 g3
        split
        · rename_i hc
          rw [if_pos hc] at h
          injection h with h
          rw [f1, f2]
          have e3 : (st.at l).skip.at (List.drop (frontF 0 (c :: t)) (c :: t')) = (st.skip.at ((c :: t).drop (frontF 0 (c :: t)))).at (List.drop (frontF 0 (c :: t)) (c :: t')) := rfl
          rw [e3, ask_at, h]
          refine ⟨_, rfl, ?_⟩
          rw [show s2 = (v, s2).2 from rfl, ← h, ask_left]
          exact f3
        rename_i hc3
        rw [if_neg hc3] at h
        split
        · rename_i hc
          rw [if_pos hc] at h
          rw [g1, g2]
          cases hq : numP ((c :: t).take (frontF 1 (c :: t))) with
          | none => rw [hq] at h; cases h
          | some n =>
            rw [hq] at h
            simp only at h ⊢
            split
            · rename_i hb; rw [if_pos hb] at h; cases h
            · rename_i hb
              rw [if_neg hb] at h
              injection h with h
              injection h with h4 h5
              exact ⟨_, by rw [← h4, ← h5]; rfl, by rw [← h5]; exact g3⟩
        · rename_i hc
          rw [if_neg hc] at h
          cases h
end Go.Proofs.YtkbpbagjbjkpmaaGreatDoor

/- An expression within brackets, and between blanks: the law. Conditions: as each theorem says. -/
namespace Go.Proofs.YtkbpbagjbjkpmaaGreatDoor
open E Go.Lib
open Rp
set_option linter.unusedVariables false
set_option linter.unusedSimpArgs false
set_option maxHeartbeats 1000000
set_option maxRecDepth 20000

def finE (e : Option (Int × ASt)) : Int × List (Str × Int) × Int := match e with
  | none => (0, [], 10)
  | some (n, st) => if ¬ skipB st.left = [] then (0, [], 10) else if ¬ st.fell = 0 then (0, [], st.fell) else (n, st.sets, 0)
theorem evalG_fin {look : Str → Int × Int} {F : Nat} {s x : Str} (hs : ¬ 4096 < s.length) (hx : skipB s = x) (h : ¬ x = []) : evalG look F s = finE (ev look F .set ⟨x, 0, 0, []⟩) := by
  subst hx
  unfold evalG finE
  rw [if_neg hs, if_neg h]
  cases ev look F .set ⟨skipB s, 0, 0, []⟩ with
  | none => rfl
  | some q => rfl
theorem evalG_blank {look : Str → Int × Int} {F : Nat} {s : Str} (hs : ¬ 4096 < s.length) (h : skipB s = []) : evalG look F s = (0, [], 0) := by
  unfold evalG
  rw [if_neg hs, if_pos h]
theorem fin_same {look : Str → Int × Int} {F : Nat} {x y : Str} (h : SA x y) : finE (ev look F .set ⟨x, 0, 0, []⟩) = finE (ev look F .set ⟨y, 0, 0, []⟩) := by
  cases hx : ev look F .set ⟨x, 0, 0, []⟩ with
  | none =>
    cases hy : ev look F .set ⟨y, 0, 0, []⟩ with
    | none => rfl
    | some q =>
      obtain ⟨n, s2⟩ := q
      obtain ⟨l', h1, _⟩ := ev_sim simZ F .set ⟨y, 0, 0, []⟩ s2 n x hy h
      have h1' : ev look F .set ⟨x, 0, 0, []⟩ = some (n, s2.at l') := h1
      rw [hx] at h1'
      cases h1'
  | some q =>
    obtain ⟨n, s2⟩ := q
    obtain ⟨l', h1, h2⟩ := ev_sim simA F .set ⟨x, 0, 0, []⟩ s2 n y hx h
    have h1' : ev look F .set ⟨y, 0, 0, []⟩ = some (n, s2.at l') := h1
    rw [h1']
    obtain ⟨t, ht, rfl⟩ := h2
    unfold finE
    have e : (skipB (s2.at (s2.left ++ t)).left = []) = (skipB s2.left = []) := by
      show (skipB (s2.left ++ t) = []) = _
      rw [skip_app]
      by_cases h0 : skipB s2.left = []
      · rw [if_pos h0, skip_all ht, h0]
      · rw [if_neg h0]
        simp [h0]
    simp only [e]
    rfl
theorem up_none {look : Str → Int × Int} {st : ASt} (h : ∀ f, ev look f .opnd st = none) : ∀ f r, ev look f (.rank r) st = none := by
  intro f
  induction f with
  | zero => intro r; rfl
  | succ f ih =>
    intro r
    by_cases hr : 10 < r
    · rw [ev_rank_hi hr]; exact h f
    · rw [ev_rank_lo hr, ih]
theorem up_none2 {look : Str → Int × Int} {st : ASt} (h : ∀ f, ev look f .opnd st = none) : ∀ f, ev look f .choice st = none
  | 0 => rfl
  | f + 1 => ev_choice_none (up_none h f 1)
theorem up_none3 {look : Str → Int × Int} {st : ASt} (h : ∀ f, ev look f .opnd st.skip = none) (h0 : frontF 0 st.skip.left = 0) : ∀ f, ev look f .set st = none
  | 0 => rfl
  | f + 1 => by
    rw [ev_set_out (by rw [h0]; exact fun h => h.1 rfl)]
    exact up_none2 h f
theorem front41 (t : Str) : frontF 0 (41 :: t) = 0 := by
  have := front_app (inn41 t) 0 []
  exact this
theorem front40 (t : Str) : frontF 0 (40 :: t) = 0 := by
  show (if alphaB 40 || _ then _ else 0) = 0
  rw [show alphaB 40 = false from by decide +kernel, Bool.false_or, show (decide (0 < 0) && digitB 40) = false from rfl, if_neg (by decide)]
theorem opnd41 {look : Str → Int × Int} {st : ASt} {t : Str} (h : st.skip.left = 41 :: t) : ∀ f, ev look f .opnd st = none
  | 0 => rfl
  | f + 1 => by
    rw [ev_opnd h, if_neg (by decide), if_neg (by decide), if_neg (by decide +kernel), if_neg (by decide +kernel)]
theorem skip40 (t : Str) : skipB (40 :: t) = 40 :: t := by rw [skip_cons, if_neg (by unfold blkB; decide)]
/-- Brackets with nothing within. -/
theorem brk_none {look : Str → Int × Int} {s : Str} (hs : skipB s = []) (F : Nat) : ev look F .set ⟨40 :: (s ++ [41, 10]), 0, 0, []⟩ = none := by
  have esk : (ASt.mk (40 :: (s ++ [41, 10])) 0 0 []).skip = ⟨40 :: (s ++ [41, 10]), 0, 0, []⟩ := by
    unfold ASt.skip
    simp only [skip40]
  refine up_none3 ?_ (by rw [esk]; exact front40 _) F
  rw [esk]
  intro f
  cases f with
  | zero => rfl
  | succ f =>
    have e40 : (ASt.mk (40 :: (s ++ [41, 10])) 0 0 []).skip.left = 40 :: (s ++ [41, 10]) := by rw [esk]
    rw [ev_opnd e40, if_neg (by decide), if_pos rfl]
    have hin : ∀ f, ev look f .set ((ASt.mk (40 :: (s ++ [41, 10])) 0 0 []).skip.at (s ++ [41, 10])) = none := by
      have e1 : (((ASt.mk (40 :: (s ++ [41, 10])) 0 0 []).skip.at (s ++ [41, 10])).skip).left = [41, 10] := by
        show skipB (s ++ [41, 10]) = _
        rw [skip_app, if_pos hs]
        exact skip41 _
      refine up_none3 ?_ (by rw [e1]; exact front41 _)
      refine opnd41 (t := [10]) ?_
      show skipB (((ASt.mk (40 :: (s ++ [41, 10])) 0 0 []).skip.at (s ++ [41, 10])).skip).left = _
      rw [e1]
      exact skip41 _
    rw [hin]
theorem skipnil : skipB [] = [] := rfl
/-- Up the ranks: nothing is left. -/
theorem climb {look : Str → Int × Int} {f : Nat} {n : Int} {st st2 : ASt} (h : ev look f (.rank 11) st = some (n, st2)) (h0 : skipB st2.left = []) : ∀ j, j ≤ 10 → ∃ l, ev look (f + j) (.rank (11 - j)) st = some (n, st2.at l) ∧ skipB l = [] := by
  intro j
  induction j with
  | zero => intro _; exact ⟨st2.left, h, h0⟩
  | succ j ih =>
    intro hj
    obtain ⟨l, h1, h2⟩ := ih (by omega)
    have e : 11 - (j + 1) + 1 = 11 - j := by omega
    rw [show f + (j + 1) = (f + j) + 1 from rfl, ev_rank_lo (by omega), e, h1]
    refine ⟨[], ?_, rfl⟩
    have hf : ∃ f', f + j = f' + 1 := by
      cases hfj : f + j with
      | zero => rw [hfj] at h1; cases h1
      | succ f' => exact ⟨f', rfl⟩
    obtain ⟨f', hf'⟩ := hf
    show ev look (f + j) (.loop (11 - (j + 1)) n) (st2.at l) = _
    have en : (st2.at l).skip.left = [] := h2
    rw [hf', ev_loop_out (by rw [en]; show ¬ 0 = _; omega)]
    have e2 : (st2.at l).skip = st2.at [] := by
      show ASt.at st2 (skipB l) = _
      rw [h2]
    rw [e2]
theorem brk_some {look : Str → Int × Int} {s : Str} {f : Nat} {n : Int} {st : ASt} (h : ev look (f + 1) .set ⟨skipB s, 0, 0, []⟩ = some (n, st)) (h0 : skipB st.left = []) :
    ∃ l, ev look (f + 15) .set ⟨40 :: (s ++ [41, 10]), 0, 0, []⟩ = some (n, st.at l) ∧ skipB l = [] := by
  have h1 : ev look (f + 1) .set ⟨s, 0, 0, []⟩ = some (n, st) := by
    have := ev_skip0 (look := look) (f := f) (st := ⟨s, 0, 0, []⟩)
    rw [← this]
    exact h
  obtain ⟨l', h2, h3⟩ := ev_sim (simB [10]) (f + 1) .set ⟨s, 0, 0, []⟩ st n (s ++ [41, 10]) h1 rfl
  have h3 : l' = st.left ++ [41, 10] := h3
  have hsl : skipB l' = [41, 10] := by rw [h3, skip_app, if_pos h0]; exact skip41 _
  have esk : (ASt.mk (40 :: (s ++ [41, 10])) 0 0 []).skip = ⟨40 :: (s ++ [41, 10]), 0, 0, []⟩ := by
    unfold ASt.skip
    simp only [skip40]
  have e40 : (ASt.mk (40 :: (s ++ [41, 10])) 0 0 []).skip.left = 40 :: (s ++ [41, 10]) := by rw [esk]
  have h2' : ev look (f + 1) .set ((ASt.mk (40 :: (s ++ [41, 10])) 0 0 []).skip.at (s ++ [41, 10])) = some (n, st.at l') := h2
  have h4 : ev look (f + 2) .opnd ⟨40 :: (s ++ [41, 10]), 0, 0, []⟩ = some (n, st.at [10]) := by
    rw [ev_opnd e40, if_neg (by decide), if_pos rfl, h2']
    have hsl2 : skipB (st.at l').left = [41, 10] := hsl
    simp only [hsl2]
    rfl
  have h5 : ev look (f + 3) (.rank 11) ⟨40 :: (s ++ [41, 10]), 0, 0, []⟩ = some (n, st.at [10]) := by
    rw [ev_rank_hi (by decide)]; exact h4
  obtain ⟨l, h6, h7⟩ := climb h5 (by show skipB [10] = []; decide) 10 (by omega)
  refine ⟨[], ?_, rfl⟩
  rw [ev_set_out (by rw [e40, front40]; exact fun h => h.1 rfl), esk]
  have h6' : ev look (f + 13) (.rank 1) ⟨40 :: (s ++ [41, 10]), 0, 0, []⟩ = some (n, st.at l) := h6
  rw [ev_choice_out h6' (by
    intro t ht
    have ht : skipB l = 63 :: t := ht
    rw [h7] at ht
    cases ht)]
  have e2 : (st.at l).skip = st.at [] := by
    show ASt.at st (skipB l) = _
    rw [h7]
  rw [e2]
theorem ev48 (look : Str → Int × Int) (f : Nat) : finE (ev look (f + 20) .set ⟨[48], 0, 0, []⟩) = (0, [], 0) := by kernel_rfl
theorem brackets {look : Str → Int × Int} {s : Str} (hs : s.length ≤ 600) (f : Nat) :
    evalG look (f + 20) (9 :: (s ++ [32])) = evalG look (f + 20) s ∧
    (((evalG look (f + 20) s).1 = 0 ∧ (evalG look (f + 20) s).2.1 = [] ∧ (evalG look (f + 20) s).2.2 = 0 ∧ (evalG look (f + 34) (32 :: 40 :: (s ++ [41, 10]))).2.2 = 10 ∧ (∀ look2, evalG look2 (f + 20) (48 :: s) = (0, [], 0))) ∨
      ¬ (evalG look (f + 20) s).2.2 = 0 ∨ ((evalG look (f + 20) s).2.2 = 0 ∧ evalG look (f + 34) (32 :: 40 :: (s ++ [41, 10])) = evalG look (f + 20) s)) := by
  have n1 : ¬ 4096 < s.length := by omega
  have n2 : ¬ 4096 < (9 :: (s ++ [32])).length := by simp; omega
  have n3 : ¬ 4096 < (32 :: 40 :: (s ++ [41, 10])).length := by simp; omega
  have n4 : ¬ 4096 < (48 :: s).length := by simp; omega
  have e9 : skipB (9 :: (s ++ [32])) = if skipB s = [] then [] else skipB s ++ [32] := by
    rw [skip_cons, if_pos (by unfold blkB; decide), skip_app]
    split <;> rfl
  have e32 : skipB (32 :: 40 :: (s ++ [41, 10])) = 40 :: (s ++ [41, 10]) := by
    rw [skip_cons, if_pos (by unfold blkB; decide), skip40]
  have e48 : skipB (48 :: s) = 48 :: s := by rw [skip_cons, if_neg (by unfold blkB; decide)]
  have eb := fun F => evalG_fin (look := look) (F := F) n3 e32 (by simp)
  by_cases h0 : skipB s = []
  · rw [if_pos h0] at e9
    rw [evalG_blank n1 h0, evalG_blank n2 e9]
    refine ⟨rfl, .inl ⟨rfl, rfl, rfl, ?_, fun look2 => ?_⟩⟩
    · rw [eb, brk_none h0]
      rfl
    · rw [evalG_fin n4 e48 (by simp)]
      have hbl : ∀ c, c ∈ s → blkB c := by
        have : ∀ l : Str, skipB l = [] → ∀ c, c ∈ l → blkB c := by
          intro l
          induction l with
          | nil => intro _ c hc; cases hc
          | cons d l ih =>
            intro h c hc
            rw [skip_cons] at h
            split at h
            · rename_i hd
              rcases List.mem_cons.1 hc with rfl | hc
              · exact hd
              · exact ih h c hc
            · cases h
        exact this s h0
      rw [← fin_same (x := [48]) (y := 48 :: s) ⟨s, hbl, rfl⟩]
      exact ev48 look2 f
  · rw [if_neg h0] at e9
    rw [evalG_fin (F := f + 20) n1 rfl h0, evalG_fin (F := f + 20) n2 e9 (by simp), ← fin_same (x := skipB s) (y := skipB s ++ [32]) ⟨[32], by simp [blkB], rfl⟩]
    refine ⟨rfl, .inr ?_⟩
    cases hev : ev look (f + 20) .set ⟨skipB s, 0, 0, []⟩ with
    | none => exact .inl (by unfold finE; decide)
    | some q =>
      obtain ⟨n, st⟩ := q
      by_cases h1 : skipB st.left = []
      · by_cases h2 : st.fell = 0
        · obtain ⟨l, h3, h4⟩ := brk_some (f := f + 19) hev h1
          refine .inr ⟨?_, ?_⟩
          · unfold finE
            simp only [if_neg (show ¬ ¬ skipB st.left = [] from fun h => h h1), if_neg (show ¬ ¬ st.fell = 0 from fun h => h h2)]
          · rw [eb, h3]
            unfold finE
            have e5 : (st.at l).left = l := rfl
            have e6 : (st.at l).fell = st.fell := rfl
            have e7 : (st.at l).sets = st.sets := rfl
            simp only [e5, e6, e7, h1, h4]
        · refine .inl ?_
          unfold finE
          simp only [if_neg (show ¬ ¬ skipB st.left = [] from fun h => h h1), if_pos h2]
          exact h2
      · refine .inl ?_
        unfold finE
        simp only [if_pos h1]
        decide
section
variable {X : Ce} {σ : AS} {R : List Ck} {k : Value → AS → Prop} {v u vv : Value} {g i : Nat} {o : Go.Obj} {l : List (Str × Str)} {s : Str}
theorem brackets_walk (L : Law X g o) (hr : RepL X vv l) (hs : s.length ≤ maxLen) (h : Hs σ X [Oth g o]) (hk : ∀ X' σ', Ce.le X X' → Hs σ' X' [Oth g o] → k (.bool true) σ') : kCall Tryz.prog 5 [.string (bs s), vv] σ k := by
  refine f5 ?_
  have hs2 := hs
  unfold maxLen at hs
  (try simp (maxSteps := 1000000) (dsimp := false) (disch := (first | omega | (simp only [okR]; done) | (simp only [sizeR] <;> omega) | fail)) only [↓preR, postR, ↓w_stop, Nat.reduceEqDiff, Nat.reduceAdd, Nat.reduceSub, Nat.reduceMul, Int.reduceNeg, Nat.reduceLT, Int.reduceToNat, Nat.reduceLeDiff, Nat.sub_zero, F5])
  refine join_by fun J1 hJ1 => ?_
  have aw : ∀ (k1 : Value → AS → Prop), (∀ X' σ', Ce.le X X' → Hs σ' X' [Oth g o] → k1 (.bool true) σ') → kCall Tryz.prog 7 [] σ k1 := fun k1 hk1 => awake_c L h hk1
  by_cases h6 : 600 < s.length
  · have h6' : 600 < (s.length : Int) := by omega
    (try simp (maxSteps := 1000000) (dsimp := false) (disch := (first | omega | (simp only [okR]; done) | (simp only [sizeR] <;> omega) | fail)) only [↓preR, postR, ↓w_stop, Nat.reduceEqDiff, Nat.reduceAdd, Nat.reduceSub, Nat.reduceMul, Int.reduceNeg, Nat.reduceLT, Int.reduceToNat, Nat.reduceLeDiff, Nat.sub_zero, h6'])
    refine aw _ fun X' s1 le1 h1 => ?_
    (try simp (maxSteps := 1000000) (dsimp := false) (disch := (first | omega | (simp only [okR]; done) | (simp only [sizeR] <;> omega) | fail)) only [↓preR, postR, ↓w_stop, Nat.reduceEqDiff, Nat.reduceAdd, Nat.reduceSub, Nat.reduceMul, Int.reduceNeg, Nat.reduceLT, Int.reduceToNat, Nat.reduceLeDiff, Nat.sub_zero])
    exact hk _ _ le1 h1
  have h6' : ¬ 600 < (s.length : Int) := by omega
  (try simp (maxSteps := 1000000) (dsimp := false) (disch := (first | omega | (simp only [okR]; done) | (simp only [sizeR] <;> omega) | fail)) only [↓preR, postR, ↓w_stop, Nat.reduceEqDiff, Nat.reduceAdd, Nat.reduceSub, Nat.reduceMul, Int.reduceNeg, Nat.reduceLT, Int.reduceToNat, Nat.reduceLeDiff, Nat.sub_zero, h6'])
  refine few_c hr h ?_
  cases hf : fewP l with
  | false =>
    (try simp (maxSteps := 1000000) (dsimp := false) (disch := (first | omega | (simp only [okR]; done) | (simp only [sizeR] <;> omega) | fail)) only [↓preR, postR, ↓w_stop, Nat.reduceEqDiff, Nat.reduceAdd, Nat.reduceSub, Nat.reduceMul, Int.reduceNeg, Nat.reduceLT, Int.reduceToNat, Nat.reduceLeDiff, Nat.sub_zero])
    refine aw _ fun X' s1 le1 h1 => ?_
    (try simp (maxSteps := 1000000) (dsimp := false) (disch := (first | omega | (simp only [okR]; done) | (simp only [sizeR] <;> omega) | fail)) only [↓preR, postR, ↓w_stop, Nat.reduceEqDiff, Nat.reduceAdd, Nat.reduceSub, Nat.reduceMul, Int.reduceNeg, Nat.reduceLT, Int.reduceToNat, Nat.reduceLeDiff, Nat.sub_zero])
    exact hk _ _ le1 h1
  | true =>
    obtain ⟨hV, h30⟩ := few_vars hr hf
    (try simp (maxSteps := 1000000) (dsimp := false) (disch := (first | omega | (simp only [okR]; done) | (simp only [sizeR] <;> omega) | fail)) only [↓preR, postR, ↓w_stop, Nat.reduceEqDiff, Nat.reduceAdd, Nat.reduceSub, Nat.reduceMul, Int.reduceNeg, Nat.reduceLT, Int.reduceToNat, Nat.reduceLeDiff, Nat.sub_zero])
    refine hJ1 _ _ ?_
    clear hJ1 aw
    obtain ⟨f0, hf0⟩ : ∃ f0, f0 + 20 = evF s + 200 := ⟨evF s + 180, by omega⟩
    have b1 : (32 :: 40 :: (s ++ [41, 10])).length ≤ maxLen := by unfold maxLen; simp; omega
    have b2 : (9 :: (s ++ [32])).length ≤ maxLen := by unfold maxLen; simp; omega
    have b3 : (48 :: s).length ≤ maxLen := by unfold maxLen; simp; omega
    (try simp (maxSteps := 1000000) (dsimp := false) (disch := (first | omega | (simp only [okR]; done) | (simp only [sizeR] <;> omega) | fail)) only [↓preR, postR, ↓w_stop, Nat.reduceEqDiff, Nat.reduceAdd, Nat.reduceSub, Nat.reduceMul, Int.reduceNeg, Nat.reduceLT, Int.reduceToNat, Nat.reduceLeDiff, Nat.sub_zero])
    refine evalL_c L hV hs2 (F := f0 + 20) (by omega) h fun u1 X1 s1 le1 r1 h1 => ?_
    (try simp (maxSteps := 1000000) (dsimp := false) (disch := (first | omega | (simp only [okR]; done) | (simp only [sizeR] <;> omega) | fail)) only [↓preR, postR, ↓w_stop, Nat.reduceEqDiff, Nat.reduceAdd, Nat.reduceSub, Nat.reduceMul, Int.reduceNeg, Nat.reduceLT, Int.reduceToNat, Nat.reduceLeDiff, Nat.sub_zero, List.cons_append, List.nil_append, List.append_assoc])
    refine evalL_c (L.mono le1) (hV.mono le1) b1 (F := f0 + 34) (by unfold evF at hf0 ⊢; simp; omega) h1 fun u2 X2 s2 le2 r2 h2 => ?_
    (try simp (maxSteps := 1000000) (dsimp := false) (disch := (first | omega | (simp only [okR]; done) | (simp only [sizeR] <;> omega) | fail)) only [↓preR, postR, ↓w_stop, Nat.reduceEqDiff, Nat.reduceAdd, Nat.reduceSub, Nat.reduceMul, Int.reduceNeg, Nat.reduceLT, Int.reduceToNat, Nat.reduceLeDiff, Nat.sub_zero, List.cons_append, List.nil_append, List.append_assoc])
    refine evalL_c ((L.mono le1).mono le2) ((hV.mono le1).mono le2) b2 (F := f0 + 20) (by unfold evF at hf0 ⊢; simp; omega) h2 fun u3 X3 s3 le3 r3 h3 => ?_
    obtain ⟨q1, q2⟩ := brackets (look := lookV l) (s := s) (by omega) f0
    rw [q1] at r3 ⊢
    have hsl := evalG_sets (l := l) (F := f0 + 20) (s := s)
    have L3 := ((L.mono le1).mono le2).mono le3
    have r1 := (r1.mono le2).mono le3
    have r2 := r2.mono le3
    have le03 := Ce.le_trans (Ce.le_trans le1 le2) le3
    clear q1
    generalize evalG (lookV l) (f0 + 20) s = r at r1 r3 hsl q2 ⊢
    generalize evalG (lookV l) (f0 + 34) (32 :: 40 :: (s ++ [41, 10])) = rb at r2 q2 ⊢
    obtain ⟨n, sets, e⟩ := r
    obtain ⟨nb, setsb, eb⟩ := rb
    have hsl2 : (txts sets).length ≤ 1000000 := by
      rw [List.length_map]
      have : sets.length ≤ 4096 := hsl
      omega
    (try simp (maxSteps := 1000000) (dsimp := false) (disch := (first | omega | (simp only [okR]; done) | (simp only [sizeR] <;> omega) | fail)) only [↓preR, postR, ↓w_stop, Nat.reduceEqDiff, Nat.reduceAdd, Nat.reduceSub, Nat.reduceMul, Int.reduceNeg, Nat.reduceLT, Int.reduceToNat, Nat.reduceLeDiff, Nat.sub_zero])
    refine join_by fun J2 hJ2 => ?_
    (try simp (maxSteps := 1000000) (dsimp := false) (disch := (first | omega | (simp only [okR]; done) | (simp only [sizeR] <;> omega) | fail)) only [↓preR, postR, ↓w_stop, Nat.reduceEqDiff, Nat.reduceAdd, Nat.reduceSub, Nat.reduceMul, Int.reduceNeg, Nat.reduceLT, Int.reduceToNat, Nat.reduceLeDiff, Nat.sub_zero])
    refine pl_c r1 hsl2 h3 fun w1 X4 s4 le4 rw4 h4 => ?_
    (try simp (maxSteps := 1000000) (dsimp := false) (disch := (first | omega | (simp only [okR]; done) | (simp only [sizeR] <;> omega) | fail)) only [↓preR, postR, ↓w_stop, Nat.reduceEqDiff, Nat.reduceAdd, Nat.reduceSub, Nat.reduceMul, Int.reduceNeg, Nat.reduceLT, Int.reduceToNat, Nat.reduceLeDiff, Nat.sub_zero])
    refine pl_c (r3.mono le4) hsl2 h4 fun w2 X5 s5 le5 rw5 h5 => ?_
    (try simp (maxSteps := 1000000) (dsimp := false) (disch := (first | omega | (simp only [okR]; done) | (simp only [sizeR] <;> omega) | fail)) only [↓preR, postR, ↓w_stop, Nat.reduceEqDiff, Nat.reduceAdd, Nat.reduceSub, Nat.reduceMul, Int.reduceNeg, Nat.reduceLT, Int.reduceToNat, Nat.reduceLeDiff, Nat.sub_zero])
    refine same_c (rw4.mono le5) rw5 h5 ?_
    (try simp (maxSteps := 1000000) (dsimp := false) (disch := (first | omega | (simp only [okR]; done) | (simp only [sizeR] <;> omega) | fail)) only [↓preR, postR, ↓w_stop, Nat.reduceEqDiff, Nat.reduceAdd, Nat.reduceSub, Nat.reduceMul, Int.reduceNeg, Nat.reduceLT, Int.reduceToNat, Nat.reduceLeDiff, Nat.sub_zero])
    refine hJ2 _ _ ?_
    clear hJ2
    have L5 := (L3.mono le4).mono le5
    have r15 := (r1.mono le4).mono le5
    have r25 := (r2.mono le4).mono le5
    have le05 := Ce.le_trans (Ce.le_trans le03 le4) le5
    (try simp (maxSteps := 1000000) (dsimp := false) (disch := (first | omega | (simp only [okR]; done) | (simp only [sizeR] <;> omega) | fail)) only [↓preR, postR, ↓w_stop, Nat.reduceEqDiff, Nat.reduceAdd, Nat.reduceSub, Nat.reduceMul, Int.reduceNeg, Nat.reduceLT, Int.reduceToNat, Nat.reduceLeDiff, Nat.sub_zero, List.cons_append, List.nil_append])
    refine evalL_c L5 (nilV X5) b3 (F := f0 + 20) (by unfold evF at hf0 ⊢; simp; omega) h5 fun u6 X6 s6 le6 _ h6 => ?_
    have L6 := L5.mono le6
    have le06 := Ce.le_trans le05 le6
    have aw : ∀ (k1 : Value → AS → Prop), (∀ X' σ', Ce.le X6 X' → Hs σ' X' [Oth g o] → k1 (.bool true) σ') → kCall Tryz.prog 7 [] s6 k1 := fun k1 hk1 => awake_c L6 h6 hk1
    rcases q2 with ⟨k1, k2, k3, k4, k5⟩ | q2
    · have k1 : n = 0 := k1
      have k2 : sets = [] := k2
      have k3 : e = 0 := k3
      have k4 : eb = 10 := k4
      subst k1 k2 k3 k4
      rw [k5 (lookV [])]
      obtain ⟨va, vcap, rfl, _⟩ := r1.val
      have e0 : ((txts []).length : Int) = 0 := rfl
      (try simp (maxSteps := 1000000) (dsimp := false) (disch := (first | omega | (simp only [okR]; done) | (simp only [sizeR] <;> omega) | fail)) only [↓preR, postR, ↓w_stop, Nat.reduceEqDiff, Nat.reduceAdd, Nat.reduceSub, Nat.reduceMul, Int.reduceNeg, Nat.reduceLT, Int.reduceToNat, Nat.reduceLeDiff, Nat.sub_zero])
      refine join_now ?_
      (try simp (maxSteps := 1000000) (dsimp := false) (disch := (first | omega | (simp only [okR]; done) | (simp only [sizeR] <;> omega) | fail)) only [↓preR, postR, ↓w_stop, Nat.reduceEqDiff, Nat.reduceAdd, Nat.reduceSub, Nat.reduceMul, Int.reduceNeg, Nat.reduceLT, Int.reduceToNat, Nat.reduceLeDiff, Nat.sub_zero, e0])
      refine aw _ fun X7 s7 le7 h7 => ?_
      (try simp (maxSteps := 1000000) (dsimp := false) (disch := (first | omega | (simp only [okR]; done) | (simp only [sizeR] <;> omega) | fail)) only [↓preR, postR, ↓w_stop, Nat.reduceEqDiff, Nat.reduceAdd, Nat.reduceSub, Nat.reduceMul, Int.reduceNeg, Nat.reduceLT, Int.reduceToNat, Nat.reduceLeDiff, Nat.sub_zero])
      exact hk _ _ (Ce.le_trans le06 le7) h7
    · (try simp (maxSteps := 1000000) (dsimp := false) (disch := (first | omega | (simp only [okR]; done) | (simp only [sizeR] <;> omega) | fail)) only [↓preR, postR, ↓w_stop, Nat.reduceEqDiff, Nat.reduceAdd, Nat.reduceSub, Nat.reduceMul, Int.reduceNeg, Nat.reduceLT, Int.reduceToNat, Nat.reduceLeDiff, Nat.sub_zero])
      refine join_by fun J3 hJ3 => ?_
      by_cases he : e = 0
      · rcases q2 with q2 | ⟨_, q3⟩
        · exact absurd he q2
        · injection q3 with q4 q5
          injection q5 with q6 q7
          subst q4 q6 q7 he
          (try simp (maxSteps := 1000000) (dsimp := false) (disch := (first | omega | (simp only [okR]; done) | (simp only [sizeR] <;> omega) | fail)) only [↓preR, postR, ↓w_stop, Nat.reduceEqDiff, Nat.reduceAdd, Nat.reduceSub, Nat.reduceMul, Int.reduceNeg, Nat.reduceLT, Int.reduceToNat, Nat.reduceLeDiff, Nat.sub_zero])
          refine hJ3 _ _ ?_
          (try simp (maxSteps := 1000000) (dsimp := false) (disch := (first | omega | (simp only [okR]; done) | (simp only [sizeR] <;> omega) | fail)) only [↓preR, postR, ↓w_stop, Nat.reduceEqDiff, Nat.reduceAdd, Nat.reduceSub, Nat.reduceMul, Int.reduceNeg, Nat.reduceLT, Int.reduceToNat, Nat.reduceLeDiff, Nat.sub_zero])
          refine pl_c (r15.mono le6) hsl2 h6 fun w7 X7 s7 le7 rw7 h7 => ?_
          (try simp (maxSteps := 1000000) (dsimp := false) (disch := (first | omega | (simp only [okR]; done) | (simp only [sizeR] <;> omega) | fail)) only [↓preR, postR, ↓w_stop, Nat.reduceEqDiff, Nat.reduceAdd, Nat.reduceSub, Nat.reduceMul, Int.reduceNeg, Nat.reduceLT, Int.reduceToNat, Nat.reduceLeDiff, Nat.sub_zero])
          refine pl_c ((r25.mono le6).mono le7) hsl2 h7 fun w8 X8 s8 le8 rw8 h8 => ?_
          (try simp (maxSteps := 1000000) (dsimp := false) (disch := (first | omega | (simp only [okR]; done) | (simp only [sizeR] <;> omega) | fail)) only [↓preR, postR, ↓w_stop, Nat.reduceEqDiff, Nat.reduceAdd, Nat.reduceSub, Nat.reduceMul, Int.reduceNeg, Nat.reduceLT, Int.reduceToNat, Nat.reduceLeDiff, Nat.sub_zero])
          refine same_c (rw7.mono le8) rw8 h8 ?_
          (try simp (maxSteps := 1000000) (dsimp := false) (disch := (first | omega | (simp only [okR]; done) | (simp only [sizeR] <;> omega) | fail)) only [↓preR, postR, ↓w_stop, Nat.reduceEqDiff, Nat.reduceAdd, Nat.reduceSub, Nat.reduceMul, Int.reduceNeg, Nat.reduceLT, Int.reduceToNat, Nat.reduceLeDiff, Nat.sub_zero])
          refine awake_c ((L6.mono le7).mono le8) h8 fun X9 s9 le9 h9 => ?_
          (try simp (maxSteps := 1000000) (dsimp := false) (disch := (first | omega | (simp only [okR]; done) | (simp only [sizeR] <;> omega) | fail)) only [↓preR, postR, ↓w_stop, Nat.reduceEqDiff, Nat.reduceAdd, Nat.reduceSub, Nat.reduceMul, Int.reduceNeg, Nat.reduceLT, Int.reduceToNat, Nat.reduceLeDiff, Nat.sub_zero])
          exact hk _ _ (Ce.le_trans (Ce.le_trans (Ce.le_trans le06 le7) le8) le9) h9
      · (try simp (maxSteps := 1000000) (dsimp := false) (disch := (first | omega | (simp only [okR]; done) | (simp only [sizeR] <;> omega) | fail)) only [↓preR, postR, ↓w_stop, Nat.reduceEqDiff, Nat.reduceAdd, Nat.reduceSub, Nat.reduceMul, Int.reduceNeg, Nat.reduceLT, Int.reduceToNat, Nat.reduceLeDiff, Nat.sub_zero, he])
        refine hJ3 _ _ ?_
        (try simp (maxSteps := 1000000) (dsimp := false) (disch := (first | omega | (simp only [okR]; done) | (simp only [sizeR] <;> omega) | fail)) only [↓preR, postR, ↓w_stop, Nat.reduceEqDiff, Nat.reduceAdd, Nat.reduceSub, Nat.reduceMul, Int.reduceNeg, Nat.reduceLT, Int.reduceToNat, Nat.reduceLeDiff, Nat.sub_zero, he])
        refine aw _ fun X7 s7 le7 h7 => ?_
        (try simp (maxSteps := 1000000) (dsimp := false) (disch := (first | omega | (simp only [okR]; done) | (simp only [sizeR] <;> omega) | fail)) only [↓preR, postR, ↓w_stop, Nat.reduceEqDiff, Nat.reduceAdd, Nat.reduceSub, Nat.reduceMul, Int.reduceNeg, Nat.reduceLT, Int.reduceToNat, Nat.reduceLeDiff, Nat.sub_zero])
        exact hk _ _ (Ce.le_trans le06 le7) h7
theorem brackets_law {W : World} {te te2 : Nat} {pe pe2 v0 v1 : Value} (T : VarAt Tryz.prog "internal/strconv.uint64pow10" g o powV) (ho : W.heap[g]? = some o) (hE : W.cell? ⟨3, 0, none⟩ = some (.iface te pe)) (hS : W.cell? ⟨2, 0, none⟩ = some (.iface te2 pe2))
    (A0 : OV (E.start W).c (shOf Tryz.prog 8 9) v0) (A1 : OV (E.start W).c (shOf Tryz.prog 8 27) v1) : callP Tryz.prog 5 [v0, v1] W fun v w' => v = .bool true ∧ KeepP (fun _ => False) W w' := by
  rw [show shOf Tryz.prog 8 9 = .str from by kernel_rfl] at A0
  obtain ⟨s, rfl, hs⟩ := arg_str A0
  obtain ⟨l, h0⟩ := varsL A1
  have h1 := h0.offT (gs := [g]) (fun g' i v hg hv => pow_no T ho hg hv)
  exact law_st T ho hE hS fun σ L h => brackets_walk L h1 hs h fun X' σ' _ h' => ⟨rfl, X', h'⟩
end
end Go.Proofs.YtkbpbagjbjkpmaaGreatDoor
