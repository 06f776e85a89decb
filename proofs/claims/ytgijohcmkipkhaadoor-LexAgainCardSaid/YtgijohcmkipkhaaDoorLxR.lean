/- What is behind a word does not matter. Conditions: none. -/
import Derived.Test.YtgijohcmkipkhaaDoorLxQ
namespace Go.Proofs.YtgijohcmkipkhaaDoor
open E Go.Lib
open Go.RowKit
set_option linter.unusedVariables false
set_option linter.unusedSimpArgs false
set_option maxHeartbeats 1000000
set_option maxRecDepth 20000

theorem posB_in {c : UInt8} {r : Str} : ∀ {l : Str} {n : Nat}, posB c (l ++ r) = some n → n < l.length → posB c l = some n
  | [], n, h, hn => by cases hn
  | a :: l, n, h, hn => by
    rw [List.cons_append, pos_cons] at h
    rw [pos_cons]
    split
    · rename_i ha; rw [if_pos ha] at h; exact h
    · rename_i ha
      rw [if_neg ha] at h
      cases hp : posB c (l ++ r) with
      | none => rw [hp] at h; cases h
      | some m =>
        rw [hp] at h
        cases h
        rw [posB_in hp (by simpa using hn)]
        rfl
theorem add_ok {r : Rd} {a n : Nat} (h : r.add a = .ok n) : ∃ m, r = .ok m ∧ n = a + m := by
  cases r with
  | ok m => cases h; exact ⟨m, rfl, rfl⟩
  | bad => cases h
  | cut => cases h
theorem shut_of {m n deep j : Nat} {r : Rd} (hd : ¬ 40 ≤ deep) (h : r = .ok j) : shut m n deep r = .ok (n + j) := by
  unfold shut
  rw [if_neg hd, h]
theorem shut_deep {m n deep j : Nat} {r : Rd} (h : shut m n deep r = .ok j) : ¬ 40 ≤ deep := by
  intro hd
  unfold shut at h
  rw [if_pos hd] at h
  cases h
/-- A thing is the same one with something else behind it. -/
theorem go_local : ∀ (f : Nat), (∀ (e : UInt8) (x r r' : Str) (q d b : Bool) (deep : Nat), go f (some e) (x ++ r) q d b deep = .ok x.length → go f (some e) (x ++ r') q d b deep = .ok x.length) ∧
    (∀ (x r r' : Str) (q d b : Bool) (deep : Nat), (r.head? = r'.head? ∨ (x ≠ [92] ∧ r'.head? ≠ some 123 ∧ r'.head? ≠ some 40)) → go f none (x ++ r) q d b deep = .ok x.length → go f none (x ++ r') q d b deep = .ok x.length)
  | 0 => ⟨fun _ _ _ _ _ _ _ _ h => (by cases h), fun _ _ _ _ _ _ _ _ h => (by cases h)⟩
  | f + 1 => by
    obtain ⟨ihA, ihB⟩ := go_local f
    refine ⟨fun e x r r' q d b deep h => ?_, fun x r r' q d b deep hr h => ?_⟩
    · have hx := (go_ok h).1
      cases x with
      | nil => cases hx
      | cons c t =>
        rw [List.cons_append, go_s] at h ⊢
        split
        · rename_i hc; rw [if_pos hc] at h; exact h
        · rename_i hc
          rw [if_neg hc] at h
          cases hg : go f none (c :: (t ++ r)) q d b deep with
          | bad e k => rw [hg] at h; cases h
          | cut => rw [hg] at h; cases h
          | ok n =>
            rw [hg] at h
            obtain ⟨m, hm, hn⟩ := add_ok h
            have h1 := go_ok hg
            have h2 := go_ok hm
            have hlen : (c :: t).length = n + m := hn
            have e1 : c :: (t ++ r) = (c :: t).take n ++ ((c :: t).drop n ++ r) := by
              rw [← List.append_assoc, List.take_append_drop]; rfl
            have e2 : c :: (t ++ r') = (c :: t).take n ++ ((c :: t).drop n ++ r') := by
              rw [← List.append_assoc, List.take_append_drop]; rfl
            have tl : ((c :: t).take n).length = n := by rw [List.length_take]; omega
            have dl : ((c :: t).drop n).length = m := by rw [List.length_drop]; omega
            have hz : (c :: t).drop n ≠ [] := fun hz => by rw [hz] at dl; simp at dl; omega
            have g1 : go f none (c :: (t ++ r')) q d b deep = .ok n := by
              rw [e2]
              rw [e1] at hg
              have := ihB ((c :: t).take n) ((c :: t).drop n ++ r) ((c :: t).drop n ++ r') q d b deep (.inl (by
                cases hd : (c :: t).drop n with
                | nil => exact absurd hd hz
                | cons y z => rfl)) (by rw [tl]; exact hg)
              rw [tl] at this
              exact this
            rw [g1]
            simp only
            have e3 : (c :: (t ++ r')).drop n = (c :: t).drop n ++ r' := by
              rw [← List.cons_append, List.drop_append_of_le_length (by omega)]
            have e4 : (c :: (t ++ r)).drop n = (c :: t).drop n ++ r := by
              rw [← List.cons_append, List.drop_append_of_le_length (by omega)]
            rw [e4] at hm
            have := ihA e ((c :: t).drop n) r r' q d b deep (by rw [dl]; exact hm)
            rw [e3, this, dl, hlen]
            rfl
    · have hx := (go_ok h).1
      cases x with
      | nil => cases hx
      | cons c t =>
        rw [List.cons_append, go_n] at h ⊢
        have inner : ∀ (e : UInt8) (q d b : Bool) (y : Str) (j : Nat) (m n : Nat), shut m n deep (go f (some e) (y ++ r) q d b (deep + 1)) = .ok j → y.length + n = j → shut m n deep (go f (some e) (y ++ r') q d b (deep + 1)) = .ok j := by
          intro e q d b y j m n hs hj
          have hd := shut_deep hs
          obtain ⟨i, hi, hji⟩ := shut_ok hs
          have : i = y.length := by omega
          subst this
          rw [shut_of hd (ihA e y r r' q d b (deep + 1) hi)]
          congr 1
          omega
        by_cases c1 : c = 92
        · rw [if_pos c1] at h ⊢
          cases t with
          | cons y z => exact h
          | nil =>
            rcases hr with hr | hr
            · cases r with
              | nil => cases r' with
                | nil => exact h
                | cons y z => cases hr
              | cons y z => simp at h
            · subst c1; exact absurd rfl hr.1
        rw [if_neg c1] at h ⊢
        by_cases c2 : c = 39 ∧ q = false
        · rw [if_pos c2] at h ⊢
          cases hp : posB 39 (t ++ r) with
          | none => rw [hp] at h; cases h
          | some n =>
            rw [hp] at h
            injection h with h
            have hlt : n < t.length := by simp at h; omega
            rw [posB_app (posB_in hp hlt)]
            simp only
            rw [h]
        rw [if_neg c2] at h ⊢
        by_cases c3 : c = 34 ∧ d = true
        · rw [if_pos c3] at h ⊢
          exact inner _ _ _ _ t _ _ _ h (by simp)
        rw [if_neg c3] at h ⊢
        by_cases c4 : c = 40 ∧ b = true
        · rw [if_pos c4] at h ⊢
          exact inner _ _ _ _ t _ _ _ h (by simp)
        rw [if_neg c4] at h ⊢
        by_cases c5 : c = 36
        · rw [if_pos c5] at h ⊢
          cases t with
          | cons y z =>
            simp only [List.cons_append] at h ⊢
            by_cases d1 : y = 123
            · rw [if_pos d1] at h ⊢
              exact inner _ _ _ _ z _ _ _ h (by simp)
            · rw [if_neg d1] at h ⊢
              by_cases d2 : y = 40
              · rw [if_pos d2] at h ⊢
                exact inner _ _ _ _ z _ _ _ h (by simp)
              · rw [if_neg d2] at h ⊢
                exact h
          | nil =>
            simp only [List.nil_append, List.length_singleton] at h ⊢
            have hno : r'.head? ≠ some 123 ∧ r'.head? ≠ some 40 := by
              rcases hr with hr | hr
              · rw [← hr]
                cases r with
                | nil => exact ⟨by simp, by simp⟩
                | cons y z =>
                  simp only at h
                  by_cases d1 : y = 123
                  · rw [if_pos d1] at h
                    obtain ⟨i, hi, hji⟩ := shut_ok h
                    omega
                  · rw [if_neg d1] at h
                    by_cases d2 : y = 40
                    · rw [if_pos d2] at h
                      obtain ⟨i, hi, hji⟩ := shut_ok h
                      omega
                    · exact ⟨by simpa using d1, by simpa using d2⟩
              · exact hr.2
            cases r' with
            | nil => rfl
            | cons y z =>
              simp only
              rw [if_neg (by simpa using hno.1), if_neg (by simpa using hno.2)]
        rw [if_neg c5] at h ⊢
        by_cases c6 : c = 96
        · rw [if_pos c6] at h; cases h
        · rw [if_neg c6] at h ⊢
          exact h
/-- A word's length does not hang on where it begins. -/
theorem wordP_shift : ∀ {f : Nat} {s : Str} {i j k : Nat}, i ≤ s.length → wordP f (s.drop i) j = (k, none) → wordP f s (i + j) = (i + k, none)
  | 0, s, i, j, k, hi, h => by cases h; rfl
  | f + 1, s, i, j, k, hi, h => by
    by_cases hlt : j < (s.drop i).length
    · have hl : i + j < s.length := by rw [List.length_drop] at hlt; omega
      rw [wd_s hlt] at h
      rw [wd_s hl]
      have eg : (s.drop i)[j] = s[i + j] := List.getElem_drop
      rw [eg, drop_drop'] at h
      split
      · rename_i hm; rw [if_pos hm] at h; cases h; rfl
      · rename_i hm
        rw [if_neg hm] at h
        cases hg : go FU none (s.drop (i + j)) false true false 0 with
        | ok n =>
          rw [hg] at h
          simp only at h ⊢
          have := wordP_shift hi h
          rw [show i + j + n = i + (j + n) from by omega]
          exact this
        | bad e b => rw [hg] at h; cases h
        | cut => rw [hg] at h; cases h; rfl
    · rw [wd_e (by omega)] at h
      cases h
      rw [List.length_drop] at hlt
      exact wd_e (by omega)
/-- A word, with something else behind it. -/
theorem wordP_local : ∀ {F : Nat} {s : Str} {i j : Nat}, wordP F s i = (j, none) → i ≤ s.length → s.length - i < F → ∀ (p : Str), (p = [] ∨ (j < s.length ∧ ∃ y r, p = y :: r ∧ metaB y = true ∧ y ≠ 123 ∧ y ≠ 40)) → ∀ F', ((s.drop i).take (j - i)).length < F' →
    wordP F' ((s.drop i).take (j - i) ++ p) 0 = (((s.drop i).take (j - i)).length, none)
  | 0, s, i, j, h, hi, hF, p, hp, F', hF' => by omega
  | F + 1, s, i, j, h, hi, hF, p, hp, F', hF' => by
    obtain ⟨F', rfl⟩ : ∃ g, F' = g + 1 := ⟨F' - 1, by omega⟩
    have stop : j = i → wordP (F' + 1) ((s.drop i).take (j - i) ++ p) 0 = (((s.drop i).take (j - i)).length, none) := by
      intro e
      subst e
      rw [Nat.sub_self, List.take_zero, List.nil_append]
      rcases hp with rfl | ⟨_, y, r, rfl, hm, _⟩
      · exact wd_e (Nat.le_refl _)
      · rw [wd_s (by simp)]
        simp only [List.getElem_cons_zero]
        rw [if_pos hm]
        rfl
    by_cases hlt : i < s.length
    · rw [wd_s hlt] at h
      by_cases hm : metaB s[i] = true
      · rw [if_pos hm] at h; cases h; exact stop rfl
      rw [if_neg hm] at h
      cases hg : go FU none (s.drop i) false true false 0 with
      | bad e b => rw [hg] at h; cases h
      | cut => exact absurd hg (go_cut (f := 2099999) (fun h => by have := congrArg List.length h; rw [List.length_drop] at this; simp at this; omega))
      | ok n =>
        rw [hg] at h
        simp only at h
        have h1 := go_ok hg
        rw [List.length_drop] at h1
        have h2 := wordP_le h (by omega)
        have dl : (s.drop i).length = s.length - i := List.length_drop
        have ew : (s.drop i).take (j - i) = (s.drop i).take n ++ (s.drop (i + n)).take (j - (i + n)) := by
          rw [← drop_drop', show j - i = n + (j - (i + n)) from by omega, List.take_add]
        have xl : ((s.drop i).take n).length = n := by rw [List.length_take]; omega
        have wl : ((s.drop (i + n)).take (j - (i + n))).length = j - (i + n) := by rw [List.length_take, List.length_drop]; omega
        have tl : ((s.drop i).take (j - i)).length = j - i := by rw [List.length_take]; omega
        rw [tl] at hF'
        have ih := wordP_local h (by omega) (by omega) p hp F' (by rw [wl]; omega)
        have es : s.drop i = (s.drop i).take n ++ s.drop (i + n) := by rw [← drop_drop', List.take_append_drop]
        have x92 : s.drop (i + n) ≠ [] → (s.drop i).take n ≠ [92] := by
          intro hne hx
          rw [hx] at xl
          have hn1 : n = 1 := by simpa using xl.symm
          subst hn1
          rw [es, hx] at hg
          change go (2099999 + 1) none (92 :: s.drop (i + 1)) false true false 0 = _ at hg
          rw [go_n, if_pos rfl, if_neg hne] at hg
          cases hg
        have hgo : go FU none ((s.drop i).take n ++ ((s.drop (i + n)).take (j - (i + n)) ++ p)) false true false 0 = .ok n := by
          have := (go_local FU).2 ((s.drop i).take n) (s.drop (i + n)) ((s.drop (i + n)).take (j - (i + n)) ++ p) false true false 0 ?_ (by rw [xl, ← es]; exact hg)
          · rw [xl] at this; exact this
          · by_cases hj : j = i + n
            · subst hj
              rw [Nat.sub_self, List.take_zero, List.nil_append]
              rcases hp with rfl | ⟨hjs, y, r, rfl, _, hy1, hy2⟩
              · by_cases he : s.drop (i + n) = []
                · rw [he]; exact .inl rfl
                · exact .inr ⟨x92 he, by simp, by simp⟩
              · refine .inr ⟨x92 (fun h => by have := congrArg List.length h; rw [List.length_drop] at this; simp at this; omega), by simpa using hy1, by simpa using hy2⟩
            · left
              have : i + n < s.length := by omega
              rw [drop_c this, show j - (i + n) = (j - (i + n) - 1) + 1 from by omega, List.take_succ_cons]
              rfl
        rw [ew, List.append_assoc]
        have hl0 : 0 < ((s.drop i).take n ++ ((s.drop (i + n)).take (j - (i + n)) ++ p)).length := by rw [List.length_append, xl]; omega
        rw [wd_s hl0]
        have e0 : ((s.drop i).take n ++ ((s.drop (i + n)).take (j - (i + n)) ++ p))[0] = s[i] := by
          rw [List.getElem_append_left (by omega), List.getElem_take, List.getElem_drop]
          congr 1
        rw [e0, if_neg hm, List.drop_zero, hgo]
        simp only
        have hd : ((s.drop i).take n ++ ((s.drop (i + n)).take (j - (i + n)) ++ p)).drop n = (s.drop (i + n)).take (j - (i + n)) ++ p := by
          rw [List.drop_append_of_le_length (by omega), List.drop_of_length_le (by omega), List.nil_append]
        have := wordP_shift (f := F') (s := (s.drop i).take n ++ ((s.drop (i + n)).take (j - (i + n)) ++ p)) (i := n) (j := 0) (k := j - (i + n)) (by rw [List.length_append, xl]; omega) (by rw [hd, ih, wl])
        rw [Nat.add_zero] at this
        rw [Nat.zero_add, this, List.length_append, xl, wl]
    · rw [wd_e (by omega)] at h
      cases h
      exact stop rfl

def kt (L : List Tok) : List (Int × Str) := L.map fun t => (t.kind, t.text)
def joinT : List (Int × Str) → Str
  | [] => []
  | [x] => x.2
  | x :: y :: r => x.2 ++ ((if x.1 = 4 then [] else [32]) ++ joinT (y :: r))
abbrev S7 : List UInt8 := [124, 38, 59, 60, 62, 40, 41]
theorem opAt_none {c : UInt8} {t : Str} : opAt (c :: t) = none ↔ S7.contains c = false := by
  constructor
  · intro h
    cases hc : S7.contains c with
    | false => rfl
    | true => exact absurd h (opAt_of hc)
  · intro h
    unfold opAt
    rw [List.find?_eq_none]
    intro o ho hp
    have hh : ∀ o, o ∈ ops16 → (match o with | [] => false | p :: _ => S7.contains p) = true := by decide
    have h1 := hh o ho
    cases o with
    | nil => cases h1
    | cons p r =>
      have := isPre_head hp
      subst this
      simp only at h1
      rw [h1] at h
      cases h
theorem op_self {o p : Str} (ho : o ∈ ops16) (hp : p = [] ∨ ∃ r, p = 32 :: r) : opAt (o ++ p) = some o := by
  rcases hp with rfl | ⟨r, rfl⟩
  · rw [List.append_nil]
    have : ∀ o, o ∈ ops16 → opAt o = some o := by decide
    exact this o ho
  · simp only [ops16, List.mem_cons, List.not_mem_nil, or_false] at ho
    rcases ho with rfl | rfl | rfl | rfl | rfl | rfl | rfl | rfl | rfl | rfl | rfl | rfl | rfl | rfl | rfl | rfl <;> simp [opAt, ops16, isPre]
/-- A word that is one wherever it stands. -/
structure WordOk (al : Bool) (w : Str) : Prop where
  hd : ∃ c t, w = c :: t ∧ S7.contains c = false ∧ blankB c = false ∧ ¬ c = 35 ∧ ¬ c = 10
  go : ∀ p, (p = [] ∨ (al = true ∧ ∃ y r, p = y :: r ∧ (y = 32 ∨ y = 60 ∨ y = 62))) → isPre [92, 10] (w ++ p) = false ∧ ∀ F, w.length < F → wordP F (w ++ p) 0 = (w.length, none)
def TokOk (al : Bool) (x : Int × Str) : Prop := (x.1 = 2 ∧ x.2 ∈ ops16 ∧ isPre [60, 60] x.2 = false) ∨ (x.1 = 3 ∧ x.2 = [10]) ∨ ((x.1 = 1 ∨ x.1 = 4) ∧ WordOk al x.2 ∧ (x.1 = 4 → trimS x.2 digs = []))
def TL : List (Int × Str) → Prop
  | [] => True
  | [x] => TokOk false x ∧ x.1 ≠ 4
  | x :: y :: r => TokOk true x ∧ (x.1 = 4 → ∃ c t, y.2 = c :: t ∧ (c = 60 ∨ c = 62)) ∧ TL (y :: r)
def hd62 (p : Str) : Bool := match p with | [] => false | c :: _ => decide (c = 60) || decide (c = 62)
theorem ioB_eq (s : Str) (i j : Nat) : ioB s i j = (hd62 (s.drop j) && decide (trimS ((s.drop i).take (j - i)) digs = [])) := rfl
def NoQ (τ : Tok) : Prop := ¬ (τ.kind = 2 ∧ isPre [60, 60] τ.text = true)
section
variable {t : Str} {out : List Tok} {i : Nat} {x : Int × Str} {p : Str} {al : Bool}
theorem kt_snoc {τ : Tok} : kt (out ++ [τ]) = kt out ++ [(τ.kind, τ.text)] := by simp [kt]
theorem tok_ne (h : TokOk al x) : x.2 ≠ [] := by
  rcases h with ⟨_, h, _⟩ | ⟨_, h⟩ | ⟨_, h, _⟩
  · have : ∀ o, o ∈ ops16 → o ≠ [] := by decide
    exact this _ h
  · rw [h]; simp
  · obtain ⟨c, r, h, _⟩ := h.hd; rw [h]; simp
theorem tok_step (hx : TokOk al x) (ht : t.drop i = x.2 ++ p) (hp : (p = [] ∧ x.1 ≠ 4) ∨ (x.1 ≠ 4 ∧ al = true ∧ ∃ r, p = 32 :: r) ∨ (x.1 = 4 ∧ al = true ∧ ∃ y r, p = y :: r ∧ (y = 60 ∨ y = 62)))
    (hn : ∀ τ, out[out.length - 1]? = some τ → NoQ τ) : i < t.length ∧ ∃ τ, stepL t ⟨out, [], i⟩ = (⟨out ++ [τ], [], i + x.2.length⟩, none) ∧ (τ.kind, τ.text) = x ∧ NoQ τ := by
  have hne := tok_ne hx
  have hi : i < t.length := by
    by_cases h : i < t.length
    · exact h
    · rw [List.drop_of_length_le (by omega)] at ht
      exact absurd (List.append_eq_nil_iff.1 ht.symm).1 hne
  refine ⟨hi, ?_⟩
  obtain ⟨k, w⟩ := x
  simp only at ht hp hne ⊢
  rw [step_eq hi]
  rcases hx with ⟨hk, ho, hq⟩ | ⟨hk, hw⟩ | ⟨hk, hw, hd⟩
  · simp only at hk ho hq
    subst hk
    have hop : opAt (t.drop i) = some w := by
      rw [ht]
      refine op_self ho ?_
      rcases hp with ⟨h, _⟩ | ⟨_, _, h⟩ | ⟨h, _⟩
      · exact .inl h
      · exact .inr h
      · cases h
    rw [hop]
    exact ⟨_, rfl, rfl, fun h => by rw [hq] at h; exact absurd h.2 (by decide)⟩
  · simp only at hk hw
    subst hk
    subst hw
    have hc : t[i] = 10 := by
      rw [drop_c hi] at ht
      injection ht
    have hop : opAt (t.drop i) = none := by rw [drop_c hi, hc, opAt_none]; decide
    have hpre : isPre [92, 10] (t.drop i) = false := by
      cases h : isPre [92, 10] (t.drop i) with
      | false => rfl
      | true => rw [drop_c hi, hc] at h; exact absurd (isPre_head h) (by decide)
    rw [hop, hpre, hc]
    have hb : blankB 10 = false := by decide
    rw [hb]
    exact ⟨⟨3, [10], i, [], some false⟩, rfl, rfl, fun h => absurd h.1 (by simp)⟩
  · simp only at hk hw hd
    obtain ⟨c, w', hcw, h7, hbl, h35, h10⟩ := hw.hd
    have hc : t[i] = c := by
      rw [drop_c hi, hcw] at ht
      injection ht
    have hop : opAt (t.drop i) = none := by rw [drop_c hi, hc, opAt_none]; exact h7
    have hp' : p = [] ∨ (al = true ∧ ∃ y r, p = y :: r ∧ (y = 32 ∨ y = 60 ∨ y = 62)) := by
      rcases hp with ⟨h, _⟩ | ⟨_, h, r, h2⟩ | ⟨_, h, y, r, h2, h3⟩
      · exact .inl h
      · exact .inr ⟨h, 32, r, h2, .inl rfl⟩
      · exact .inr ⟨h, y, r, h2, .inr h3⟩
    obtain ⟨g1, g2⟩ := hw.go p hp'
    have tl : t.length - i = w.length + p.length := by
      have := congrArg List.length ht
      rw [List.length_drop, List.length_append] at this
      exact this
    have hwp : wordP (t.length + 1) t i = (i + w.length, none) := by
      have := wordP_shift (f := t.length + 1) (s := t) (i := i) (j := 0) (k := w.length) (by omega) (by rw [ht]; exact g2 _ (by omega))
      rw [Nat.add_zero] at this
      exact this
    rw [hop, ht, g1, hc, hbl]
    simp only [Bool.false_eq_true, if_false, h35, h10]
    rw [hwp]
    dsimp only
    have text : (t.drop i).take (i + w.length - i) = w := by
      rw [ht, show i + w.length - i = w.length from by omega, List.take_left']
      rfl
    have hdj : t.drop (i + w.length) = p := by
      rw [← drop_drop', ht, List.drop_left']
      rfl
    have hio : ioB t i (i + w.length) = (hd62 p && decide (trimS w digs = [])) := by
      rw [ioB_eq, hdj, text]
    rcases hk with hk | hk
    · subst hk
      have hf : ioB t i (i + w.length) = false := by
        rw [hio]
        rcases hp with ⟨h, _⟩ | ⟨_, _, r, h⟩ | ⟨h, _⟩
        · rw [h]; rfl
        · rw [h]; rfl
        · cases h
      rw [ofWord_word hf hn, text]
      exact ⟨_, rfl, rfl, fun h => absurd h.1 (by simp)⟩
    · subst hk
      have hT : ioB t i (i + w.length) = true := by
        rw [hio, hd rfl]
        rcases hp with ⟨_, h⟩ | ⟨h, _⟩ | ⟨_, _, y, r, h, h2⟩
        · exact absurd rfl h
        · exact absurd rfl h
        · rw [h]
          rcases h2 with h2 | h2 <;> simp [h2, hd62]
      rw [ofWord_io hT, text]
      exact ⟨_, rfl, rfl, fun h => absurd h.1 (by simp)⟩
theorem blank_step {r : Str} (ht : t.drop i = 32 :: r) : i < t.length ∧ stepL t ⟨out, [], i⟩ = (⟨out, [], i + 1⟩, none) := by
  have hi : i < t.length := by
    by_cases h : i < t.length
    · exact h
    · rw [List.drop_of_length_le (by omega)] at ht; cases ht
  have hc : t[i] = 32 := by
    rw [drop_c hi] at ht
    injection ht
  have hop : opAt (t.drop i) = none := by rw [drop_c hi, hc, opAt_none]; decide
  have hpre : isPre [92, 10] (t.drop i) = false := by
    cases h : isPre [92, 10] (t.drop i) with
    | false => rfl
    | true => rw [drop_c hi, hc] at h; exact absurd (isPre_head h) (by decide)
  refine ⟨hi, ?_⟩
  rw [step_eq hi, hop, hpre, hc]
  rfl
theorem joinT_head {y : Int × Str} {r : List (Int × Str)} : ∃ q, joinT (y :: r) = y.2 ++ q := by
  cases r with
  | nil => exact ⟨[], (List.append_nil _).symm⟩
  | cons z r => exact ⟨_, rfl⟩
theorem last_snoc {τ : Tok} (h : NoQ τ) : ∀ a, (out ++ [τ])[(out ++ [τ]).length - 1]? = some a → NoQ a := by
  intro a ha
  have : (out ++ [τ])[(out ++ [τ]).length - 1]? = some τ := by simp
  rw [this] at ha
  cases ha
  exact h
/-- The tokens again. -/
theorem relex : ∀ {l : List (Int × Str)} {out : List Tok} {i f : Nat}, TL l → t.drop i = joinT l → i ≤ t.length → t.length - i < f → (∀ τ, out[out.length - 1]? = some τ → NoQ τ) →
    ∃ out', runL f t ⟨out, [], i⟩ = (⟨out', [], t.length⟩, none) ∧ kt out' = kt out ++ l
  | [], out, i, f, _, ht, hi, hf, hn => by
    obtain ⟨f, rfl⟩ : ∃ g, f = g + 1 := ⟨f - 1, by omega⟩
    have hie : i = t.length := by
      have := congrArg List.length ht
      rw [List.length_drop] at this
      simp [joinT] at this
      omega
    subst hie
    exact ⟨out, run_e (Nat.le_refl _), by simp⟩
  | [x], out, i, f, hT, ht, hi, hf, hn => by
    obtain ⟨f, rfl⟩ : ∃ g, f = g + 1 := ⟨f - 1, by omega⟩
    have ht' : t.drop i = x.2 ++ [] := by rw [List.append_nil]; exact ht
    obtain ⟨hlt, τ, h1, h2, h3⟩ := tok_step hT.1 ht' (.inl ⟨rfl, hT.2⟩) hn
    have tl : i + x.2.length = t.length := by
      have := congrArg List.length ht'
      rw [List.length_drop, List.append_nil] at this
      omega
    obtain ⟨f, rfl⟩ : ∃ g, f = g + 1 := ⟨f - 1, by omega⟩
    rw [run_s (st := ⟨out, [], i⟩) hlt, h1, tl]
    exact ⟨_, run_e (Nat.le_refl _), by rw [kt_snoc, h2]⟩
  | x :: y :: r, out, i, f, hT, ht, hi, hf, hn => by
    obtain ⟨f, rfl⟩ : ∃ g, f = g + 1 := ⟨f - 1, by omega⟩
    obtain ⟨hx, hx4, hT'⟩ := hT
    have hl := congrArg List.length ht
    by_cases h4 : x.1 = 4
    · have ht' : t.drop i = x.2 ++ joinT (y :: r) := by
        rw [ht]
        show x.2 ++ ((if x.1 = 4 then [] else [32]) ++ joinT (y :: r)) = _
        rw [if_pos h4, List.nil_append]
      obtain ⟨c, t', hy, hc⟩ := hx4 h4
      obtain ⟨q, hq⟩ := joinT_head (y := y) (r := r)
      obtain ⟨hlt, τ, h1, h2, h3⟩ := tok_step hx ht' (.inr (.inr ⟨h4, rfl, c, t' ++ q, by rw [hq, hy]; rfl, hc⟩)) hn
      have hxn := List.length_pos_iff.2 (tok_ne hx)
      have hlen : t.length - i = x.2.length + (joinT (y :: r)).length := by
        have := congrArg List.length ht'
        rw [List.length_drop, List.length_append] at this
        exact this
      rw [run_s (st := ⟨out, [], i⟩) hlt, h1]
      obtain ⟨out', g1, g2⟩ := relex (l := y :: r) (out := out ++ [τ]) (i := i + x.2.length) (f := f) hT' (by rw [← drop_drop', ht', List.drop_left']; rfl) (by omega) (by omega) (last_snoc h3)
      exact ⟨out', g1, by rw [g2, kt_snoc, h2, List.append_assoc]; rfl⟩
    · have ht' : t.drop i = x.2 ++ (32 :: joinT (y :: r)) := by
        rw [ht]
        show x.2 ++ ((if x.1 = 4 then [] else [32]) ++ joinT (y :: r)) = _
        rw [if_neg h4]; rfl
      obtain ⟨hlt, τ, h1, h2, h3⟩ := tok_step hx ht' (.inr (.inl ⟨h4, rfl, _, rfl⟩)) hn
      have hxn := List.length_pos_iff.2 (tok_ne hx)
      have hlen : t.length - i = x.2.length + ((joinT (y :: r)).length + 1) := by
        have := congrArg List.length ht'
        rw [List.length_drop, List.length_append] at this
        exact this
      have hd1 : t.drop (i + x.2.length) = 32 :: joinT (y :: r) := by rw [← drop_drop', ht', List.drop_left']; rfl
      obtain ⟨hlt2, h5⟩ := blank_step (out := out ++ [τ]) hd1
      obtain ⟨f, rfl⟩ : ∃ g, f = g + 1 := ⟨f - 1, by omega⟩
      rw [run_s (st := ⟨out, [], i⟩) hlt, h1]
      dsimp only
      rw [run_s (st := ⟨out ++ [τ], [], i + x.2.length⟩) hlt2, h5]
      obtain ⟨out', g1, g2⟩ := relex (l := y :: r) (out := out ++ [τ]) (i := i + x.2.length + 1) (f := f) hT' (by rw [← drop_drop', hd1]; rfl) (by omega) (by omega) (last_snoc h3)
      exact ⟨out', g1, by rw [g2, kt_snoc, h2, List.append_assoc]; rfl⟩
end

theorem kt_set {L : List Tok} {n : Nat} {t a : Tok} (ht : L[n]? = some t) (h1 : a.kind = t.kind) (h2 : a.text = t.text) : kt (L.set n a) = kt L := by
  unfold kt
  rw [List.map_set]
  apply List.ext_getElem?
  intro j
  rw [List.getElem?_set]
  split
  · rename_i hj
    subst hj
    have hlt := (List.getElem?_eq_some_iff.1 ht).1
    rw [if_pos (by simpa using hlt), List.getElem?_map, ht, h1, h2]
    rfl
  · rfl
theorem kt_body {L : List Tok} {n : Nat} {b : Str} : kt (setBody L n b) = kt L := by
  unfold setBody
  split
  · rename_i t ht; exact kt_set ht rfl rfl
  · rfl
theorem kt_raw {L : List Tok} {n : Nat} : kt (setRaw L n) = kt L := by
  unfold setRaw
  split
  · rename_i t ht; exact kt_set ht rfl rfl
  · rfl
section
variable {s : Str} {st st' : LS} {out : List Tok} {i j : Nat} {e : Option (Int × Nat)} {l : List (Int × Str)}
theorem kt_heres : ∀ {ws : List Wt} {out : List Tok} {i : Nat} {o' : List Tok} {i' : Nat} {e : Option (Int × Nat)}, heres s out i ws = (o', i', e) → kt o' = kt out
  | [], out, i, o', i', e, h => by cases h; rfl
  | w :: ws, out, i, o', i', e, h => by
    rw [heres_c] at h
    split at h
    · exact (kt_heres h).trans kt_body
    · cases h; rfl
/-- What a step adds. -/
theorem kt_step (hi : st.i < s.length) (hs : stepL s st = (st', e)) : kt st'.out = kt st.out ∨ ∃ x, kt st'.out = kt st.out ++ [x] ∧ (x.1 = 2 → x.2 ∈ ops16) := by
  obtain ⟨out, ws, i⟩ := st
  simp only at hi
  rw [step_eq hi] at hs
  split at hs
  · rename_i o ho
    cases hs
    exact .inr ⟨_, kt_snoc, fun _ => by unfold opAt at ho; exact List.mem_of_find?_eq_some ho⟩
  split at hs
  · cases hs; exact .inl rfl
  split at hs
  · cases hs; exact .inl rfl
  split at hs
  · cases hs; exact .inl rfl
  split at hs
  · split at hs
    · rename_i hh
      cases hs
      exact .inr ⟨_, by rw [kt_snoc, kt_heres hh], fun h => absurd h (by simp)⟩
    · rename_i hh
      cases hs
      exact .inl (kt_heres hh)
  split at hs
  · cases hs
    refine .inr ?_
    unfold ofWord
    dsimp only
    split
    · exact ⟨_, kt_snoc, fun h => absurd h (by simp)⟩
    · split
      · split
        · exact ⟨_, by rw [kt_raw, kt_snoc], fun h => absurd h (by simp)⟩
        · exact ⟨_, kt_snoc, fun h => absurd h (by simp)⟩
      · exact ⟨_, kt_snoc, fun h => absurd h (by simp)⟩
  · cases hs; exact .inl rfl
theorem kt_run : ∀ {f : Nat} {st st' : LS} {e : Option (Int × Nat)}, runL f s st = (st', e) → (∀ x, x ∈ kt st.out → x ∈ kt st'.out) ∧ ((∀ x, x ∈ kt st.out → x.1 = 2 → x.2 ∈ ops16) → ∀ x, x ∈ kt st'.out → x.1 = 2 → x.2 ∈ ops16)
  | 0, st, st', e, h => by cases h; exact ⟨fun x hx => hx, fun h => h⟩
  | f + 1, st, st', e, h => by
    by_cases hlt : st.i < s.length
    · rw [run_s hlt] at h
      cases hst : stepL s st with
      | mk st2 e2 =>
        have g : (∀ x, x ∈ kt st.out → x ∈ kt st2.out) ∧ ((∀ x, x ∈ kt st.out → x.1 = 2 → x.2 ∈ ops16) → ∀ x, x ∈ kt st2.out → x.1 = 2 → x.2 ∈ ops16) := by
          rcases kt_step hlt hst with g | ⟨y, g, hy⟩
          · rw [g]; exact ⟨fun x hx => hx, fun h => h⟩
          · rw [g]
            refine ⟨fun x hx => by simp [hx], fun h x hx => ?_⟩
            rcases List.mem_append.1 hx with hx | hx
            · exact h x hx
            · simp only [List.mem_singleton] at hx; subst hx; exact hy
        rw [hst] at h
        cases e2 with
        | none =>
          obtain ⟨g1, g2⟩ := kt_run h
          exact ⟨fun x hx => g1 x (g.1 x hx), fun h => g2 (g.2 h)⟩
        | some e2 => cases h; exact g
    · rw [run_e (by omega)] at h
      cases h; exact ⟨fun x hx => hx, fun h => h⟩
/-- No token << is there. -/
def NoH (l : List (Int × Str)) : Prop := ∀ x, x ∈ l → x.1 = 2 → isPre [60, 60] x.2 = false
/-- What tokens are like while the text is gone through. -/
structure AI (s : Str) (st : LS) : Prop where
  ws : st.ws = []
  ok : ∀ j (hj : j < st.out.length), TokOk (decide (st.out[j].at' + st.out[j].text.length < s.length)) (st.out[j].kind, st.out[j].text)
  nx : ∀ j (hj : j + 1 < st.out.length), st.out[j].kind = 4 → ∃ c t, st.out[j + 1].text = c :: t ∧ (c = 60 ∨ c = 62)
  ls : ∀ τ, st.out[st.out.length - 1]? = some τ → τ.kind = 4 → ∃ c r, s.drop st.i = c :: r ∧ (c = 60 ∨ c = 62)
theorem word_ok (hi : i < s.length) (hw : wordP (s.length + 1) s i = (j, none)) (hop : opAt (s.drop i) = none) (hpre : isPre [92, 10] (s.drop i) = false) (hbl : blankB s[i] = false) (h35 : ¬ s[i] = 35) (h10 : ¬ s[i] = 10) : WordOk (decide (j < s.length)) ((s.drop i).take (j - i)) := by
  have hm : metaB s[i] = false := not_meta (t := s.drop (i + 1)) (by rw [← drop_c hi]; exact hop) (by rw [hbl]; decide) h10
  have hlt := wordP_lt hw hi hm
  have hle := wordP_le hw (by omega)
  have ew : (s.drop i).take (j - i) = s[i] :: (s.drop (i + 1)).take (j - i - 1) := by
    rw [drop_c hi, show j - i = (j - i - 1) + 1 from by omega, List.take_succ_cons]
    rfl
  have tl : ((s.drop i).take (j - i)).length = j - i := by rw [List.length_take, List.length_drop]; omega
  refine ⟨⟨s[i], _, ew, ?_, hbl, h35, h10⟩, fun p hp => ⟨?_, ?_⟩⟩
  · rw [drop_c hi, opAt_none] at hop; exact hop
  · cases h : isPre [92, 10] ((s.drop i).take (j - i) ++ p) with
    | false => rfl
    | true =>
      exfalso
      -- the first two bytes are \ and the line's end
      have h1 := h
      unfold isPre at h1
      have h2 := of_decide_eq_true h1
      by_cases h3 : 2 ≤ j - i
      · rw [List.take_append_of_le_length (by rw [tl]; exact h3), List.take_take, show min ([92, 10] : Str).length (j - i) = 2 from Nat.min_eq_left h3] at h2
        have : isPre [92, 10] (s.drop i) = true := by unfold isPre; exact decide_eq_true h2
        rw [this] at hpre; cases hpre
      · have hj : j = i + 1 := by omega
        subst hj
        rw [ew] at h
        have hc := isPre_head h
        -- the \ alone is a word: at the end
        rw [wd_s hi, if_neg (by rw [hm]; decide), drop_c hi, hc] at hw
        change (match go (2099999 + 1) none (92 :: s.drop (i + 1)) false true false 0 with
          | .ok n => wordP s.length s (i + n)
          | .bad e k => (i, some (e, i + k))
          | .cut => (i, none)) = _ at hw
        rw [go_n, if_pos rfl] at hw
        have hend : s.drop (i + 1) = [] := by
          by_cases hz : s.drop (i + 1) = []
          · exact hz
          · rw [if_neg hz] at hw
            simp only at hw
            have hl2 : i + 2 ≤ s.length := by
              by_cases h : i + 1 < s.length
              · omega
              · exact absurd (List.drop_of_length_le (by omega)) hz
            have := wordP_le hw hl2
            omega
        have hsl : s.length = i + 1 := by
          have := congrArg List.length hend
          rw [List.length_drop] at this
          simp at this
          omega
        rcases hp with rfl | ⟨h4, _⟩
        · rw [List.append_nil, ew] at h2
          have := congrArg List.length h2
          simp at this
        · have := of_decide_eq_true h4
          omega
  · intro F hF
    refine wordP_local hw (by omega) (by omega) p ?_ F hF
    rcases hp with rfl | ⟨h4, y, r, rfl, hy⟩
    · exact .inl rfl
    · refine .inr ⟨of_decide_eq_true h4, y, r, rfl, ?_⟩
      rcases hy with rfl | rfl | rfl <;> exact ⟨by decide, by decide, by decide⟩
theorem get_snoc {τ : Tok} {n : Nat} (hn : n < (out ++ [τ]).length) : (out ++ [τ])[n] = if h : n < out.length then out[n] else τ := by
  split
  · rename_i h; exact List.getElem_append_left h
  · rename_i h
    have : n = out.length := by simp at hn; omega
    subst this
    simp
theorem AI.snoc {τ : Tok} {i' : Nat} (h : AI s ⟨out, [], i⟩) (h1 : TokOk (decide (τ.at' + τ.text.length < s.length)) (τ.kind, τ.text)) (h2 : (∀ a, out[out.length - 1]? = some a → a.kind = 4 → ∃ c t, τ.text = c :: t ∧ (c = 60 ∨ c = 62)))
    (h3 : τ.kind = 4 → ∃ c r, s.drop i' = c :: r ∧ (c = 60 ∨ c = 62)) : AI s ⟨out ++ [τ], [], i'⟩ := by
  refine ⟨rfl, fun j hj => ?_, fun j hj hk => ?_, fun a ha hk => ?_⟩
  · simp only [get_snoc]
    by_cases hlt : j < out.length
    · simp only [hlt, dif_pos]; exact h.ok j hlt
    · simp only [hlt, dif_neg, not_false_eq_true]; exact h1
  · simp only [get_snoc] at hk ⊢
    simp only [List.length_append, List.length_singleton] at hj
    have hlt : j < out.length := by omega
    simp only [hlt, dif_pos] at hk
    by_cases hlt2 : j + 1 < out.length
    · simp only [hlt2, dif_pos]; exact h.nx j hlt2 hk
    · simp only [hlt2, dif_neg, not_false_eq_true]
      have hje : j = out.length - 1 := by omega
      refine h2 out[j] ?_ hk
      rw [← hje]
      exact List.getElem?_eq_getElem hlt
  · have : (out ++ [τ])[(out ++ [τ]).length - 1]? = some τ := by simp
    simp only at ha
    rw [this] at ha
    cases ha
    exact h3 hk
theorem AI.step (h : AI s st) (hi : st.i < s.length) (hs : stepL s st = (st', none)) (hN : NoH (kt st'.out)) : AI s st' := by
  obtain ⟨out, ws, i⟩ := st
  have hws : ws = [] := h.ws
  subst hws
  simp only at hi
  have hcur : ∀ a, out[out.length - 1]? = some a → a.kind = 4 → ∃ c r, s.drop i = c :: r ∧ (c = 60 ∨ c = 62) := h.ls
  have hno : opAt (s.drop i) = none → ∀ a, out[out.length - 1]? = some a → ¬ a.kind = 4 := by
    intro hop a ha hk
    obtain ⟨c, r, h1, h2⟩ := hcur a ha hk
    rw [h1, opAt_none] at hop
    rcases h2 with rfl | rfl <;> exact absurd hop (by decide)
  have same : opAt (s.drop i) = none → ∀ i', AI s ⟨out, [], i'⟩ := fun hop i' => ⟨rfl, h.ok, h.nx, fun a ha hk => absurd hk (hno hop a ha)⟩
  rw [step_eq hi] at hs
  split at hs
  · rename_i o ho
    cases hs
    have hmem : o ∈ ops16 := by unfold opAt at ho; exact List.mem_of_find?_eq_some ho
    have hpre : isPre o (s.drop i) = true := by
      unfold opAt at ho
      have := List.find?_some ho
      exact this
    refine h.snoc (.inl ⟨rfl, hmem, ?_⟩) (fun a ha hk => ?_) (fun hk => absurd hk (by simp))
    · exact hN (2, o) (by rw [kt_snoc]; simp) rfl
    · obtain ⟨c, r, h1, h2⟩ := hcur a ha hk
      cases o with
      | nil => exact absurd hmem (by decide)
      | cons p q =>
        rw [h1] at hpre
        have := isPre_head hpre
        subst this
        exact ⟨c, q, rfl, h2⟩
  rename_i hop
  split at hs
  · cases hs; exact same hop _
  rename_i hpre
  split at hs
  · cases hs; exact same hop _
  rename_i hbl
  split at hs
  · cases hs; exact same hop _
  rename_i h35
  split at hs
  · have hh : heres s out (i + 1) [] = (out, i + 1, none) := rfl
    rw [hh] at hs
    cases hs
    exact h.snoc (.inr (.inl ⟨rfl, rfl⟩)) (fun a ha hk => absurd hk (hno hop a ha)) (fun hk => absurd hk (by simp))
  rename_i h10
  split at hs
  · rename_i j hw
    cases hs
    have hm : metaB s[i] = false := not_meta (t := s.drop (i + 1)) (by rw [← drop_c hi]; exact hop) hbl h10
    have hlt := wordP_lt hw hi hm
    have hle := wordP_le hw (by omega)
    have tl : ((s.drop i).take (j - i)).length = j - i := by rw [List.length_take, List.length_drop]; omega
    have hWd := word_ok hi hw hop (by simpa using hpre) (by simpa using hbl) h35 h10
    have eal : decide (i + ((s.drop i).take (j - i)).length < s.length) = decide (j < s.length) := by rw [tl, show i + (j - i) = j from by omega]
    cases hio : ioB s i j with
    | true =>
      rw [ofWord_io hio]
      refine h.snoc (.inr (.inr ⟨.inr rfl, by rw [eal]; exact hWd, fun _ => ?_⟩)) (fun a ha hk => absurd hk (hno hop a ha)) (fun _ => ?_)
      · unfold ioB at hio
        simp only [Bool.and_eq_true, decide_eq_true_iff] at hio
        exact hio.2
      · unfold ioB at hio
        simp only [Bool.and_eq_true] at hio
        have h1 := hio.1
        cases hd : s.drop j with
        | nil => rw [hd] at h1; cases h1
        | cons c r =>
          rw [hd] at h1
          simp only [Bool.or_eq_true, decide_eq_true_iff] at h1
          exact ⟨c, r, rfl, h1⟩
    | false =>
      have hnq : ∀ τ, out[out.length - 1]? = some τ → ¬ (τ.kind = 2 ∧ isPre [60, 60] τ.text = true) := by
        intro τ hτ hq
        have hmem : (τ.kind, τ.text) ∈ kt (ofWord s ⟨out, [], i⟩ j).out := by
          have h1 : (τ.kind, τ.text) ∈ kt out := by
            unfold kt
            exact List.mem_map.2 ⟨τ, List.mem_of_getElem? hτ, rfl⟩
          have h2 : kt (ofWord s ⟨out, [], i⟩ j).out = kt out ++ [(1, (s.drop i).take (j - i))] := by
            unfold ofWord
            dsimp only
            rw [if_neg (by rw [hio]; decide)]
            split
            · split
              · rw [kt_raw, kt_snoc]
              · rw [kt_snoc]
            · rw [kt_snoc]
          rw [h2]
          simp [h1]
        have := hN _ hmem hq.1
        simp only at this
        rw [this] at hq
        exact absurd hq.2 (by decide)
      rw [ofWord_word hio hnq]
      exact h.snoc (.inr (.inr ⟨.inl rfl, by rw [eal]; exact hWd, fun hk => absurd hk (by simp)⟩)) (fun a ha hk => absurd hk (hno hop a ha)) (fun hk => absurd hk (by simp))
  · cases hs
theorem AI.run : ∀ {f : Nat} {st st' : LS}, AI s st → InvM s st → s.length - st.i < f → runL f s st = (st', none) → NoH (kt st'.out) → AI s st' ∧ st'.i = s.length
  | 0, st, st', h, hI, hf, hr, hN => by omega
  | f + 1, st, st', h, hI, hf, hr, hN => by
    by_cases hlt : st.i < s.length
    · rw [run_s hlt] at hr
      cases hst : stepL s st with
      | mk st2 e2 =>
        rw [hst] at hr
        cases e2 with
        | none =>
          obtain ⟨g1, _⟩ := hI.step hlt hst
          obtain ⟨g2, g3⟩ := g1 rfl
          have hN2 : NoH (kt st2.out) := fun x hx => hN x ((kt_run hr).1 x hx)
          exact AI.run (h.step hlt hst hN2) g3 (by omega) hr hN
        | some e2 => cases hr
    · rw [run_e (by omega)] at hr
      have := hI.i
      cases hr
      exact ⟨h, by omega⟩
theorem TL_of : ∀ {l : List (Int × Str)}, (∀ j (hj : j < l.length), TokOk (decide (j + 1 < l.length)) l[j]) → (∀ j (hj : j + 1 < l.length), l[j].1 = 4 → ∃ c t, l[j + 1].2 = c :: t ∧ (c = 60 ∨ c = 62)) → (∀ x, l[l.length - 1]? = some x → x.1 ≠ 4) → TL l
  | [], _, _, _ => trivial
  | [x], h1, _, h3 => ⟨h1 0 (by simp), h3 x rfl⟩
  | x :: y :: r, h1, h2, h3 => by
    refine ⟨by have := h1 0 (by simp); simpa using this, fun hk => h2 0 (by simp) hk, TL_of (fun j hj => ?_) (fun j hj hk => h2 (j + 1) (by simpa using hj) hk) (fun z hz => ?_)⟩
    · have := h1 (j + 1) (by simpa using hj)
      simpa using this
    · refine h3 z ?_
      rw [← hz]
      simp
theorem SI_sum : ∀ {n : Nat} {l : List (Str × Nat)} {e : Nat}, l.length = n → SI s l e → (l.map fun x => x.1.length + 1).sum ≤ 2 * e := by
  intro n
  induction n with
  | zero =>
    intro l e hl _
    have : l = [] := List.eq_nil_of_length_eq_zero hl
    subst this
    simp
  | succ n ih =>
    intro l e hl h
    obtain rfl | ⟨l, x, rfl⟩ := List.eq_nil_or_concat l
    · simp
    simp only [List.concat_eq_append] at *
    have hj : l.length < (l ++ [x]).length := by simp
    obtain ⟨h1, h2, _, h4⟩ := h l.length hj
    have g : (l ++ [x])[l.length] = x := by simp
    rw [g] at h1 h2 h4
    have hS : SI s l x.2 := by
      intro a ha
      have ha' : a < (l ++ [x]).length := by simp; omega
      obtain ⟨k1, k2, k3, k4⟩ := h a ha'
      have ga : (l ++ [x])[a] = l[a] := List.getElem_append_left ha
      rw [ga] at k1 k2 k3 k4
      have := h4 a ha
      rw [ga] at this
      refine ⟨k1, this, k3, fun b hb => ?_⟩
      have gb : (l ++ [x])[b]'(by simp; omega) = l[b] := List.getElem_append_left (by omega)
      have := k4 b hb
      rw [gb] at this
      exact this
    have := ih (by simp at hl; omega) hS
    have hp := List.length_pos_iff.2 h1
    simp only [List.map_append, List.map_cons, List.map_nil, List.sum_append, List.sum_cons, List.sum_nil]
    omega
theorem joinT_len : ∀ {l : List (Int × Str)}, (joinT l).length ≤ (l.map fun x => x.2.length + 1).sum
  | [] => Nat.zero_le _
  | [x] => by simp [joinT]
  | x :: y :: r => by
    have ih := joinT_len (l := y :: r)
    show (x.2 ++ ((if x.1 = 4 then [] else [32]) ++ joinT (y :: r))).length ≤ _
    rw [List.map_cons, List.sum_cons, List.length_append, List.length_append]
    have : (if x.1 = 4 then ([] : Str) else [32]).length ≤ 1 := by split <;> simp
    omega
/-- The tokens again. -/
theorem lex_again {L : List Tok} {at' : Nat} (hs : s.length ≤ 1000) (hL : lexP s = (L, at', 0)) (hN : NoH (kt L)) : ∃ M, lexP (joinT (kt L)) = (M, 0, 0) ∧ kt M = kt L ∧ (joinT (kt L)).length ≤ 2000 := by
  have hst := lex_stands (s := s) (by omega)
  rw [hL] at hst
  obtain ⟨hS, _, _⟩ := hst
  unfold lexP at hL
  rw [if_neg (by omega)] at hL
  cases hr : runL (s.length + 1) s ⟨[], [], 0⟩ with
  | mk st e =>
    rw [hr] at hL
    have hSI := SI.run (st := ⟨[], [], 0⟩) ⟨Nat.zero_le _, Nat.le_refl _, Nat.le_refl _, fun w hw => by cases hw⟩ SI.nil (by show s.length - 0 < _; omega) hr
    cases e with
    | some e =>
      obtain ⟨x, b⟩ := e
      simp only [Prod.mk.injEq] at hL
      exact absurd hL.2.2 ((hSI.2.2.2 x b rfl).2)
    | none =>
      have hout : st.out = L := by
        simp only at hL
        split at hL <;> (injection hL)
      subst hout
      obtain ⟨hA, hi⟩ := AI.run (st := ⟨[], [], 0⟩) ⟨rfl, fun j hj => (by cases hj), fun j hj => (by cases hj), fun a ha => (by cases ha)⟩ ⟨Nat.zero_le _, Nat.le_refl _, Nat.le_refl _, fun w hw => by cases hw⟩ (by show s.length - 0 < _; omega) hr hN
      have kl : (kt st.out).length = st.out.length := by simp [kt]
      have kg : ∀ j (hj : j < (kt st.out).length), (kt st.out)[j] = ((st.out[j]'(by omega)).kind, (st.out[j]'(by omega)).text) := fun j hj => by simp [kt]
      have hTL : TL (kt st.out) := by
        refine TL_of (fun j hj => ?_) (fun j hj hk => ?_) (fun x hx => ?_)
        · have hj' : j < st.out.length := by omega
          have h1 := hA.ok j hj'
          rw [kg j hj]
          by_cases hj2 : j + 1 < (kt st.out).length
          · have hj3 : j + 1 < (sk st.out).length := by simp [sk]; omega
            obtain ⟨k1, k2, _, k4⟩ := hS (j + 1) hj3
            have k5 := k4 j (by omega)
            simp only [sk, List.getElem_map] at k1 k2 k5
            have hp := List.length_pos_iff.2 k1
            rw [decide_eq_true hj2]
            rw [decide_eq_true (by omega)] at h1
            exact h1
          · rw [decide_eq_false hj2]
            rcases h1 with h1 | h1 | ⟨h1, h2, h3⟩
            · exact .inl h1
            · exact .inr (.inl h1)
            · exact .inr (.inr ⟨h1, ⟨h2.hd, fun p hp => h2.go p (by
                rcases hp with hp | hp
                · exact .inl hp
                · cases hp.1)⟩, h3⟩)
        · rw [kg j (by omega)] at hk
          rw [kg (j + 1) hj]
          exact hA.nx j (by omega) hk
        · intro hk
          have hx2 := hx
          unfold kt at hx2
          rw [List.length_map, List.getElem?_map] at hx2
          cases ho : st.out[st.out.length - 1]? with
          | none => rw [ho] at hx2; cases hx2
          | some a =>
          rw [ho] at hx2
          injection hx2 with hx2
          subst hx2
          obtain ⟨c, r, h1, _⟩ := hA.ls a ho hk
          rw [hi, List.drop_of_length_le (Nat.le_refl _)] at h1
          cases h1
      have hlen : (joinT (kt st.out)).length ≤ 2000 := by
        have h1 := joinT_len (l := kt st.out)
        have h2 := SI_sum rfl hS
        have h3 : ((kt st.out).map fun x => x.2.length + 1).sum = ((sk st.out).map fun x => x.1.length + 1).sum := by
          unfold kt sk
          rw [List.map_map, List.map_map]
          rfl
        have h4 := Nat.le_trans (Nat.le_trans h1 (Nat.le_of_eq h3)) h2
        omega
      obtain ⟨M, m1, m2⟩ := relex (t := joinT (kt st.out)) (out := []) (i := 0) (f := (joinT (kt st.out)).length + 1) hTL rfl (Nat.zero_le _) (by omega) (fun τ hτ => by cases hτ)
      refine ⟨M, ?_, by rw [m2]; rfl, hlen⟩
      unfold lexP
      rw [if_neg (by omega), m1]
end

theorem joinT_cons (x : Int × Str) (r : List (Int × Str)) : joinT (x :: r) = x.2 ++ ((if x.1 = 4 ∨ r = [] then [] else [32]) ++ joinT r) := by
  cases r with
  | nil => simp [joinT]
  | cons y r =>
    show x.2 ++ ((if x.1 = 4 then [] else [32]) ++ joinT (y :: r)) = _
    by_cases h : x.1 = 4 <;> simp [h]
theorem lex_ops {s : Str} (hs : s.length ≤ 4096) : ∀ x, x ∈ kt (lexP s).1 → x.1 = 2 → x.2 ∈ ops16 := by
  unfold lexP
  rw [if_neg (by omega)]
  cases hr : runL (s.length + 1) s ⟨[], [], 0⟩ with
  | mk st e =>
    have h := (kt_run hr).2 (fun x hx => by cases hx)
    cases e with
    | some e => exact h
    | none =>
      simp only
      split <;> exact h
theorem lex_nil : lexP [] = ([], 0, 0) := by kernel_rfl
section
variable {σ σ' : AS} {X : Ce} {R : List Ck} {k : Value → AS → Prop} {s : Str}
theorem again_law {v0 : Value} {c : Ce} (h : Hs σ c []) (A0 : OV c (shOf Tryd.prog 8 9) v0) : kCall Tryd.prog 4 [v0] σ fun v _ => v = .bool true := by
  rw [show shOf Tryd.prog 8 9 = .str from by kernel_rfl] at A0
  obtain ⟨s, rfl, hs⟩ := arg_str A0
  refine f4 ?_
  unfold maxLen at hs
  by_cases hl : 1000 < s.length
  · (try simp (maxSteps := 1000000) (dsimp := false) (disch := (first | omega | (simp only [okR]; done) | (simp only [sizeR] <;> omega) | fail)) only [↓preR, postR, ↓w_stop, Nat.reduceEqDiff, Nat.reduceAdd, Nat.reduceSub, Nat.reduceMul, Int.reduceNeg, Nat.reduceLT, Int.reduceToNat, Nat.reduceLeDiff, Nat.sub_zero, F4])
    refine join_now ?_
    (try simp (maxSteps := 1000000) (dsimp := false) (disch := (first | omega | (simp only [okR]; done) | (simp only [sizeR] <;> omega) | fail)) only [↓preR, postR, ↓w_stop, Nat.reduceEqDiff, Nat.reduceAdd, Nat.reduceSub, Nat.reduceMul, Int.reduceNeg, Nat.reduceLT, Int.reduceToNat, Nat.reduceLeDiff, Nat.sub_zero])
    refine awake_c h fun X' s1 _ h1 => ?_
    (try simp (maxSteps := 1000000) (dsimp := false) (disch := (first | omega | (simp only [okR]; done) | (simp only [sizeR] <;> omega) | fail)) only [↓preR, postR, ↓w_stop, Nat.reduceEqDiff, Nat.reduceAdd, Nat.reduceSub, Nat.reduceMul, Int.reduceNeg, Nat.reduceLT, Int.reduceToNat, Nat.reduceLeDiff, Nat.sub_zero])
  obtain ⟨hS, _, _⟩ := lex_stands (s := s) (by omega)
  have hO := lex_ops (s := s) (by omega)
  (try simp (maxSteps := 1000000) (dsimp := false) (disch := (first | omega | (simp only [okR]; done) | (simp only [sizeR] <;> omega) | fail)) only [↓preR, postR, ↓w_stop, Nat.reduceEqDiff, Nat.reduceAdd, Nat.reduceSub, Nat.reduceMul, Int.reduceNeg, Nat.reduceLT, Int.reduceToNat, Nat.reduceLeDiff, Nat.sub_zero, F4])
  refine join_now ?_
  (try simp (maxSteps := 1000000) (dsimp := false) (disch := (first | omega | (simp only [okR]; done) | (simp only [sizeR] <;> omega) | fail)) only [↓preR, postR, ↓w_stop, Nat.reduceEqDiff, Nat.reduceAdd, Nat.reduceSub, Nat.reduceMul, Int.reduceNeg, Nat.reduceLT, Int.reduceToNat, Nat.reduceLeDiff, Nat.sub_zero])
  refine lex_c (by omega) h fun X1 u s1 _ h1 => ?_
  have hLE := fun (L : List Tok) (at' : Nat) (e : lexP s = (L, at', 0)) => lex_again (s := s) (by omega) e
  generalize hW : lexP s = W at hS hO h1 hLE ⊢
  obtain ⟨L, at', e⟩ := W
  simp only at hS hO h1 ⊢
  have hjl : (joinT (kt L)).length ≤ 2000 := by
    have h1 := joinT_len (l := kt L)
    have h2 := SI_sum rfl hS
    have h3 : ((kt L).map fun x => x.2.length + 1).sum = ((sk L).map fun x => x.1.length + 1).sum := by
      unfold kt sk
      rw [List.map_map, List.map_map]
      rfl
    have h4 := Nat.le_trans (Nat.le_trans h1 (Nat.le_of_eq h3)) h2
    omega
  obtain ⟨ux, uc, rfl, huc⟩ := h1.own
  (try simp (maxSteps := 1000000) (dsimp := false) (disch := (first | omega | (simp only [okR]; done) | (simp only [sizeR] <;> omega) | fail)) only [↓preR, postR, ↓w_stop, Nat.reduceEqDiff, Nat.reduceAdd, Nat.reduceSub, Nat.reduceMul, Int.reduceNeg, Nat.reduceLT, Int.reduceToNat, Nat.reduceLeDiff, Nat.sub_zero])
  refine join_by fun J2 hJ2 => ?_
  have tail : ∀ s2 : AS, (L = [] ∨ e = 0) → NoH (kt L) → Hs s2 X1 [E.Own (α := Tok) (.slice ux L.length uc) L] → J2 [.string (bs (joinT (kt L)))] s2 := by
    intro s2 hLe hN h2
    refine hJ2 _ _ ?_
    clear hJ2
    obtain ⟨M, m1, m2, _⟩ : ∃ M, lexP (joinT (kt L)) = (M, 0, 0) ∧ kt M = kt L ∧ True := by
      rcases hLe with rfl | rfl
      · exact ⟨[], lex_nil, rfl, trivial⟩
      · obtain ⟨M, m1, m2, _⟩ := hLE L at' rfl hN
        exact ⟨M, m1, m2, trivial⟩
    have hML : M.length = L.length := by
      have := congrArg List.length m2
      simpa [kt] using this
    (try simp (maxSteps := 1000000) (dsimp := false) (disch := (first | omega | (simp only [okR]; done) | (simp only [sizeR] <;> omega) | fail)) only [↓preR, postR, ↓w_stop, Nat.reduceEqDiff, Nat.reduceAdd, Nat.reduceSub, Nat.reduceMul, Int.reduceNeg, Nat.reduceLT, Int.reduceToNat, Nat.reduceLeDiff, Nat.sub_zero])
    refine lex_c (by omega) h2 fun X2 w s3 _ h3 => ?_
    rw [m1] at h3 ⊢
    simp only at h3 ⊢
    obtain ⟨wx, wc, rfl, _⟩ := h3.own
    have hMI : (M.length : Int) = (L.length : Int) := by omega
    (try simp (maxSteps := 1000000) (dsimp := false) (disch := (first | omega | (simp only [okR]; done) | (simp only [sizeR] <;> omega) | fail)) only [↓preR, postR, ↓w_stop, Nat.reduceEqDiff, Nat.reduceAdd, Nat.reduceSub, Nat.reduceMul, Int.reduceNeg, Nat.reduceLT, Int.reduceToNat, Nat.reduceLeDiff, Nat.sub_zero, hMI, hML])
    refine join_now ?_
    (try simp (maxSteps := 1000000) (dsimp := false) (disch := (first | omega | (simp only [okR]; done) | (simp only [sizeR] <;> omega) | fail)) only [↓preR, postR, ↓w_stop, Nat.reduceEqDiff, Nat.reduceAdd, Nat.reduceSub, Nat.reduceMul, Int.reduceNeg, Nat.reduceLT, Int.reduceToNat, Nat.reduceLeDiff, Nat.sub_zero])
    refine join_now ?_
    refine loop_inv (fun nn xs s4 => ∃ j : Nat, xs = [.int .i64 j] ∧ s3 = s4 ∧ j ≤ L.length ∧ nn = L.length - j) _ ⟨0, rfl, rfl, Nat.zero_le _, rfl⟩ ?_
    rintro _ _ s4 again ⟨j, rfl, rfl, hj, rfl⟩ hag
    (try simp (maxSteps := 1000000) (dsimp := false) (disch := (first | omega | (simp only [okR]; done) | (simp only [sizeR] <;> omega) | fail)) only [↓preR, postR, ↓w_stop, Nat.reduceEqDiff, Nat.reduceAdd, Nat.reduceSub, Nat.reduceMul, Int.reduceNeg, Nat.reduceLT, Int.reduceToNat, Nat.reduceLeDiff, Nat.sub_zero])
    refine join_now ?_
    by_cases hlt : j < L.length
    rotate_left
    · (try simp (maxSteps := 1000000) (dsimp := false) (disch := (first | omega | (simp only [okR]; done) | (simp only [sizeR] <;> omega) | fail)) only [↓preR, postR, ↓w_stop, Nat.reduceEqDiff, Nat.reduceAdd, Nat.reduceSub, Nat.reduceMul, Int.reduceNeg, Nat.reduceLT, Int.reduceToNat, Nat.reduceLeDiff, Nat.sub_zero])
      refine awake_c h3 fun X' s5 _ h4 => ?_
      (try simp (maxSteps := 1000000) (dsimp := false) (disch := (first | omega | (simp only [okR]; done) | (simp only [sizeR] <;> omega) | fail)) only [↓preR, postR, ↓w_stop, Nat.reduceEqDiff, Nat.reduceAdd, Nat.reduceSub, Nat.reduceMul, Int.reduceNeg, Nat.reduceLT, Int.reduceToNat, Nat.reduceLeDiff, Nat.sub_zero])
    have hltM : j < M.length := by omega
    have hjM : M[j].kind = L[j].kind ∧ M[j].text = L[j].text := by
      have h5 : (kt M)[j]? = (kt L)[j]? := by rw [m2]
      unfold kt at h5
      rw [List.getElem?_map, List.getElem?_map, List.getElem?_eq_getElem hlt, List.getElem?_eq_getElem hltM] at h5
      simp only [Option.map_some, Option.some.injEq, Prod.mk.injEq] at h5
      exact h5
    obtain ⟨g1, c1, y1, b1, f1, hcl, hcm, e1, _, _, x0, x1, _⟩ := tok_at (h3.front 1 rfl) hlt
    obtain ⟨g2, c2, y2, b2, f2, _, _, e2, _, _, z0, z1, _⟩ := tok_at h3 hltM
    unfold maxLen at hcm
    injection f1 with f1 _ _
    injection f2 with f2 _ _
    subst f1
    subst f2
    rw [hjM.1] at z0
    rw [hjM.2] at z1
    (try simp (maxSteps := 1000000) (dsimp := false) (disch := (first | omega | (simp only [okR]; done) | (simp only [sizeR] <;> omega) | fail)) only [↓preR, postR, ↓w_stop, Nat.reduceEqDiff, Nat.reduceAdd, Nat.reduceSub, Nat.reduceMul, Int.reduceNeg, Nat.reduceLT, Int.reduceToNat, Nat.reduceLeDiff, Nat.sub_zero])
    refine join_now ?_
    (try simp (maxSteps := 1000000) (dsimp := false) (disch := (first | omega | (simp only [okR]; done) | (simp only [sizeR] <;> omega) | fail)) only [↓preR, postR, ↓w_stop, Nat.reduceEqDiff, Nat.reduceAdd, Nat.reduceSub, Nat.reduceMul, Int.reduceNeg, Nat.reduceLT, Int.reduceToNat, Nat.reduceLeDiff, Nat.sub_zero, e1, e2, x0, x1, z0, z1, hML])
    exact hag _ _ _ ⟨j + 1, rfl, rfl, hlt, rfl⟩ (by omega)
  clear hJ2
  (try simp (maxSteps := 1000000) (dsimp := false) (disch := (first | omega | (simp only [okR]; done) | (simp only [sizeR] <;> omega) | fail)) only [↓preR, postR, ↓w_stop, Nat.reduceEqDiff, Nat.reduceAdd, Nat.reduceSub, Nat.reduceMul, Int.reduceNeg, Nat.reduceLT, Int.reduceToNat, Nat.reduceLeDiff, Nat.sub_zero])
  refine loop_inv (fun nn xs s2 => ∃ (j : Nat) (acc : Str), xs = [.string (bs acc), .int .i64 j] ∧ s1 = s2 ∧ j ≤ L.length ∧ acc ++ joinT (kt (L.drop j)) = joinT (kt L) ∧ (j = 0 ∨ e = 0) ∧ (∀ i (hi : i < L.length), i < j → ¬ (L[i].kind = 2 ∧ isPre [60, 60] L[i].text = true)) ∧ nn = L.length - j) _ ⟨0, [], rfl, rfl, Nat.zero_le _, rfl, .inl rfl, fun i _ hi => by omega, rfl⟩ ?_
  rintro _ _ s2 again ⟨j, acc, rfl, rfl, hj, hacc, hje, hnq, rfl⟩ hag
  (try simp (maxSteps := 1000000) (dsimp := false) (disch := (first | omega | (simp only [okR]; done) | (simp only [sizeR] <;> omega) | fail)) only [↓preR, postR, ↓w_stop, Nat.reduceEqDiff, Nat.reduceAdd, Nat.reduceSub, Nat.reduceMul, Int.reduceNeg, Nat.reduceLT, Int.reduceToNat, Nat.reduceLeDiff, Nat.sub_zero])
  refine join_now ?_
  by_cases hlt : j < L.length
  rotate_left
  · have hjL : j = L.length := by omega
    subst hjL
    rw [List.drop_of_length_le (Nat.le_refl _)] at hacc
    have hacc : acc = joinT (kt L) := by simpa [kt, joinT] using hacc
    subst hacc
    (try simp (maxSteps := 1000000) (dsimp := false) (disch := (first | omega | (simp only [okR]; done) | (simp only [sizeR] <;> omega) | fail)) only [↓preR, postR, ↓w_stop, Nat.reduceEqDiff, Nat.reduceAdd, Nat.reduceSub, Nat.reduceMul, Int.reduceNeg, Nat.reduceLT, Int.reduceToNat, Nat.reduceLeDiff, Nat.sub_zero])
    refine tail s1 ?_ (fun x hx hk => ?_) h1
    · rcases hje with hje | hje
      · exact .inl (List.eq_nil_of_length_eq_zero hje)
      · exact .inr hje
    · unfold kt at hx
      obtain ⟨τ, hτ, rfl⟩ := List.mem_map.1 hx
      obtain ⟨i, hi, rfl⟩ := List.mem_iff_getElem.1 hτ
      cases hq : isPre [60, 60] L[i].text with
      | false => rfl
      | true => exact absurd ⟨hk, hq⟩ (hnq i hi hi)
  (try simp (maxSteps := 1000000) (dsimp := false) (disch := (first | omega | (simp only [okR]; done) | (simp only [sizeR] <;> omega) | fail)) only [↓preR, postR, ↓w_stop, Nat.reduceEqDiff, Nat.reduceAdd, Nat.reduceSub, Nat.reduceMul, Int.reduceNeg, Nat.reduceLT, Int.reduceToNat, Nat.reduceLeDiff, Nat.sub_zero])
  refine join_by fun J10 hJ10 => ?_
  obtain ⟨g1, c1, y1, b1, f1, hcl, hcm, e1, _, hTP, x0, x1, _⟩ := tok_at h1 hlt
  unfold maxLen at hcm
  injection f1 with f1 _ _
  subst f1
  have hdk : kt (L.drop j) = (L[j].kind, L[j].text) :: kt (L.drop (j + 1)) := by rw [List.drop_eq_getElem_cons hlt]; rfl
  have hlast : kt (L.drop (j + 1)) = [] ↔ ¬ ((j : Int) < (L.length : Int) - 1) := by
    unfold kt
    rw [List.map_eq_nil_iff, List.drop_eq_nil_iff]
    omega
  rw [hdk, joinT_cons] at hacc
  have next : ∀ acc' : Str, e = 0 → ¬ (L[j].kind = 2 ∧ isPre [60, 60] L[j].text = true) → acc' ++ joinT (kt (L.drop (j + 1))) = joinT (kt L) → J10 [.string (bs acc')] s1 := by
    intro acc' he hq ha
    refine hJ10 _ _ ?_
    (try simp (maxSteps := 1000000) (dsimp := false) (disch := (first | omega | (simp only [okR]; done) | (simp only [sizeR] <;> omega) | fail)) only [↓preR, postR, ↓w_stop, Nat.reduceEqDiff, Nat.reduceAdd, Nat.reduceSub, Nat.reduceMul, Int.reduceNeg, Nat.reduceLT, Int.reduceToNat, Nat.reduceLeDiff, Nat.sub_zero])
    refine hag _ _ _ ⟨j + 1, acc', rfl, rfl, hlt, ha, .inr he, fun i hi hij => ?_, rfl⟩ (by omega)
    by_cases hij2 : i = j
    · subst hij2; exact hq
    · exact hnq i hi (by omega)
  clear hJ10
  (try simp (maxSteps := 1000000) (dsimp := false) (disch := (first | omega | (simp only [okR]; done) | (simp only [sizeR] <;> omega) | fail)) only [↓preR, postR, ↓w_stop, Nat.reduceEqDiff, Nat.reduceAdd, Nat.reduceSub, Nat.reduceMul, Int.reduceNeg, Nat.reduceLT, Int.reduceToNat, Nat.reduceLeDiff, Nat.sub_zero])
  refine join_by fun J11 hJ11 => ?_
  have t11 : e = 0 → ¬ (L[j].kind = 2 ∧ isPre [60, 60] L[j].text = true) → J11 [] s1 := by
    intro he hq
    refine hJ11 _ _ ?_
    clear hJ11
    have hal : acc.length + L[j].text.length + (if L[j].kind = 4 ∨ kt (L.drop (j + 1)) = [] then ([] : Str) else [32]).length ≤ 2000 := by
      rw [← hacc] at hjl
      simp only [List.length_append] at hjl
      omega
    (try simp (maxSteps := 1000000) (dsimp := false) (disch := (first | omega | (simp only [okR]; done) | (simp only [sizeR] <;> omega) | fail)) only [↓preR, postR, ↓w_stop, Nat.reduceEqDiff, Nat.reduceAdd, Nat.reduceSub, Nat.reduceMul, Int.reduceNeg, Nat.reduceLT, Int.reduceToNat, Nat.reduceLeDiff, Nat.sub_zero, e1, x0, x1])
    by_cases h4 : L[j].kind = 4
    · rw [if_pos (.inl h4), List.nil_append, ← List.append_assoc] at hacc
      (try simp (maxSteps := 1000000) (dsimp := false) (disch := (first | omega | (simp only [okR]; done) | (simp only [sizeR] <;> omega) | fail)) only [↓preR, postR, ↓w_stop, Nat.reduceEqDiff, Nat.reduceAdd, Nat.reduceSub, Nat.reduceMul, Int.reduceNeg, Nat.reduceLT, Int.reduceToNat, Nat.reduceLeDiff, Nat.sub_zero, h4])
      exact next _ he hq hacc
    · by_cases hls : (j : Int) < (L.length : Int) - 1
      · have hne : ¬ (L[j].kind = 4 ∨ kt (L.drop (j + 1)) = []) := by
          intro h
          rcases h with h | h
          · exact h4 h
          · exact hlast.1 h hls
        rw [if_neg hne] at hacc hal
        simp only [List.length_singleton] at hal
        (try simp (maxSteps := 1000000) (dsimp := false) (disch := (first | omega | (simp only [okR]; done) | (simp only [sizeR] <;> omega) | fail)) only [↓preR, postR, ↓w_stop, Nat.reduceEqDiff, Nat.reduceAdd, Nat.reduceSub, Nat.reduceMul, Int.reduceNeg, Nat.reduceLT, Int.reduceToNat, Nat.reduceLeDiff, Nat.sub_zero, h4, hls])
        refine next _ he hq ?_
        rw [← hacc]
        simp only [List.append_assoc]
      · rw [if_pos (.inr (hlast.2 hls)), List.nil_append, ← List.append_assoc] at hacc
        (try simp (maxSteps := 1000000) (dsimp := false) (disch := (first | omega | (simp only [okR]; done) | (simp only [sizeR] <;> omega) | fail)) only [↓preR, postR, ↓w_stop, Nat.reduceEqDiff, Nat.reduceAdd, Nat.reduceSub, Nat.reduceMul, Int.reduceNeg, Nat.reduceLT, Int.reduceToNat, Nat.reduceLeDiff, Nat.sub_zero, h4, hls])
        exact next _ he hq hacc
  clear hJ11
  by_cases he : e = 0
  rotate_left
  · (try simp (maxSteps := 1000000) (dsimp := false) (disch := (first | omega | (simp only [okR]; done) | (simp only [sizeR] <;> omega) | fail)) only [↓preR, postR, ↓w_stop, Nat.reduceEqDiff, Nat.reduceAdd, Nat.reduceSub, Nat.reduceMul, Int.reduceNeg, Nat.reduceLT, Int.reduceToNat, Nat.reduceLeDiff, Nat.sub_zero, he])
    refine awake_c h1 fun X' s5 _ h4 => ?_
    (try simp (maxSteps := 1000000) (dsimp := false) (disch := (first | omega | (simp only [okR]; done) | (simp only [sizeR] <;> omega) | fail)) only [↓preR, postR, ↓w_stop, Nat.reduceEqDiff, Nat.reduceAdd, Nat.reduceSub, Nat.reduceMul, Int.reduceNeg, Nat.reduceLT, Int.reduceToNat, Nat.reduceLeDiff, Nat.sub_zero])
  subst he
  by_cases hk2 : L[j].kind = 2
  rotate_left
  · (try simp (maxSteps := 1000000) (dsimp := false) (disch := (first | omega | (simp only [okR]; done) | (simp only [sizeR] <;> omega) | fail)) only [↓preR, postR, ↓w_stop, Nat.reduceEqDiff, Nat.reduceAdd, Nat.reduceSub, Nat.reduceMul, Int.reduceNeg, Nat.reduceLT, Int.reduceToNat, Nat.reduceLeDiff, Nat.sub_zero, e1, x0, hk2])
    exact t11 rfl (fun h => hk2 h.1)
  have hkT : (L[j].kind = 2) = True := eq_true hk2
  by_cases hq1 : L[j].text = [60, 60]
  · have hT : (L[j].text = [60, 60]) = True := eq_true hq1
    (try simp (maxSteps := 1000000) (dsimp := false) (disch := (first | omega | (simp only [okR]; done) | (simp only [sizeR] <;> omega) | fail)) only [↓preR, postR, ↓w_stop, Nat.reduceEqDiff, Nat.reduceAdd, Nat.reduceSub, Nat.reduceMul, Int.reduceNeg, Nat.reduceLT, Int.reduceToNat, Nat.reduceLeDiff, Nat.sub_zero, e1, x0, x1, hkT, hT])
    refine awake_c h1 fun X' s5 _ h4 => ?_
    (try simp (maxSteps := 1000000) (dsimp := false) (disch := (first | omega | (simp only [okR]; done) | (simp only [sizeR] <;> omega) | fail)) only [↓preR, postR, ↓w_stop, Nat.reduceEqDiff, Nat.reduceAdd, Nat.reduceSub, Nat.reduceMul, Int.reduceNeg, Nat.reduceLT, Int.reduceToNat, Nat.reduceLeDiff, Nat.sub_zero])
  by_cases hq2 : L[j].text = [60, 60, 45]
  · have hF : (L[j].text = [60, 60]) = False := eq_false hq1
    have hT : (L[j].text = [60, 60, 45]) = True := eq_true hq2
    (try simp (maxSteps := 1000000) (dsimp := false) (disch := (first | omega | (simp only [okR]; done) | (simp only [sizeR] <;> omega) | fail)) only [↓preR, postR, ↓w_stop, Nat.reduceEqDiff, Nat.reduceAdd, Nat.reduceSub, Nat.reduceMul, Int.reduceNeg, Nat.reduceLT, Int.reduceToNat, Nat.reduceLeDiff, Nat.sub_zero, e1, x0, x1, hkT, hF, hT])
    refine awake_c h1 fun X' s5 _ h4 => ?_
    (try simp (maxSteps := 1000000) (dsimp := false) (disch := (first | omega | (simp only [okR]; done) | (simp only [sizeR] <;> omega) | fail)) only [↓preR, postR, ↓w_stop, Nat.reduceEqDiff, Nat.reduceAdd, Nat.reduceSub, Nat.reduceMul, Int.reduceNeg, Nat.reduceLT, Int.reduceToNat, Nat.reduceLeDiff, Nat.sub_zero])
  · have hF : (L[j].text = [60, 60]) = False := eq_false hq1
    have hF2 : (L[j].text = [60, 60, 45]) = False := eq_false hq2
    (try simp (maxSteps := 1000000) (dsimp := false) (disch := (first | omega | (simp only [okR]; done) | (simp only [sizeR] <;> omega) | fail)) only [↓preR, postR, ↓w_stop, Nat.reduceEqDiff, Nat.reduceAdd, Nat.reduceSub, Nat.reduceMul, Int.reduceNeg, Nat.reduceLT, Int.reduceToNat, Nat.reduceLeDiff, Nat.sub_zero, e1, x0, x1, hkT, hF, hF2])
    refine t11 rfl (fun h => ?_)
    have hm := hO (L[j].kind, L[j].text) (by unfold kt; exact List.mem_map.2 ⟨_, List.getElem_mem hlt, rfl⟩) hk2
    have hall : ∀ o, o ∈ ops16 → isPre [60, 60] o = true → o = [60, 60] ∨ o = [60, 60, 45] := by decide
    rcases hall _ hm h.2 with h | h
    · exact hq1 h
    · exact hq2 h
end
end Go.Proofs.YtgijohcmkipkhaaDoor
