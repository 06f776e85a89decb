/- Patterns: tokens of a text, what they fit, as plain functions; laws of these. Conditions: none. -/
import Derived.Test.YtgkhdiahncemcaaEq
import Derived.Test.YtgkhdiahncemcaaG1
namespace Go.Proofs.Ytgkhdiahncemcaa
open E Go.Lib
set_option linter.unusedVariables false
set_option linter.unusedSimpArgs false

/-- Kind, byte, not, ranges. -/
abbrev Tok := Int × UInt8 × Bool × List (UInt8 × UInt8)
def isP (s : Str) (q : List Bool) (i : Nat) (c : UInt8) : Bool := decide (s[i]? = some c) && !(q[i]?.getD false)
def endF (s : Str) (q : List Bool) : Nat → Nat → Nat
  | 0, e => e
  | f + 1, e => if isP s q e 93 then e else endF s q f (e + 1)
/-- The ] from e on, or the end. -/
def endAt (s : Str) (q : List Bool) (e : Nat) : Nat := endF s q (s.length - e) e
def byt (s : Str) (i : Nat) : UInt8 := s[i]?.getD 0
def rgF (s : Str) (q : List Bool) (e : Nat) : Nat → Nat → List (UInt8 × UInt8)
  | 0, _ => []
  | f + 1, i => if i < e then (if i + 2 < e ∧ isP s q (i + 1) 45 = true then (byt s i, byt s (i + 2)) :: rgF s q e f (i + 3) else (byt s i, byt s i) :: rgF s q e f (i + 1)) else []
def rgs (s : Str) (q : List Bool) (e i : Nat) : List (UInt8 × UInt8) := rgF s q e (e - i) i
def first (s : Str) (q : List Bool) (i : Nat) : Nat := if isP s q (i + 1) 33 then i + 2 else i + 1
def clsE (s : Str) (q : List Bool) (i : Nat) : Nat := endAt s q (first s q i + 1)
def tokAt (s : Str) (q : List Bool) (i : Nat) : Tok × Nat :=
  if isP s q i 63 then ((2, 0, false, []), i + 1)
  else if isP s q i 42 then ((3, 0, false, []), i + 1)
  else if isP s q i 91 = true ∧ clsE s q i < s.length then ((4, 0, isP s q (i + 1) 33, rgs s q (clsE s q i) (first s q i)), clsE s q i + 1)
  else ((1, byt s i, false, []), i + 1)
def toksF (s : Str) (q : List Bool) : Nat → Nat → List Tok
  | 0, _ => []
  | f + 1, i => if i < s.length then (tokAt s q i).1 :: toksF s q f (tokAt s q i).2 else []
def toksA (s : Str) (q : List Bool) (i : Nat) : List Tok := toksF s q (s.length - i) i
def toks (s : Str) (q : List Bool) : List Tok := toksA s q 0
def inR (c : UInt8) (r : UInt8 × UInt8) : Bool := decide (r.1.toNat ≤ c.toNat) && decide (c.toNat ≤ r.2.toNat)
def fit1 (t : Tok) (c : UInt8) : Bool :=
  if t.1 = 1 then decide (t.2.1 = c) else if t.1 = 2 then true else if t.1 = 4 then (t.2.2.2.any (inR c)) != t.2.2.1 else false
def scanOr : Bool → List Bool → List Bool
  | _, [] => []
  | a, b :: r => (a || b) :: scanOr (a || b) r
def stepL (s : Str) (row : List Bool) (t : Tok) : List Bool := if t.1 = 3 then scanOr false row else false :: List.zipWith (fun b c => b && fit1 t c) row s
def row0 (n : Nat) : List Bool := true :: List.replicate n false
def reachL (l : List Tok) (s : Str) : List Bool := l.foldl (stepL s) (row0 s.length)
def matchL (l : List Tok) (s : Str) : Bool := (reachL l s)[s.length]?.getD false
/-- The first, or the last, of 0 .. n - 1 at which p is; -1: none. -/
def pick (p : Nat → Bool) (longest : Bool) : Nat → Int
  | 0 => -1
  | n + 1 => if p n && (decide (pick p longest n < 0) || longest) then n else pick p longest n
def frontL (l : List Tok) (s : Str) (longest : Bool) : Int := pick (fun n => (reachL l s)[n]?.getD false) longest (s.length + 1)
def backL (l : List Tok) (s : Str) (longest : Bool) : Int := pick (fun n => matchL l (s.drop (s.length - n))) longest (s.length + 1)
def specL (l : List Tok) : Bool := l.any fun t => decide (t.1 ≠ 1)

/-! ### Tokens -/
section
variable {s : Str} {q : List Bool} {i e f g : Nat}
theorem isP_lt {c : UInt8} (h : isP s q i c = true) : i < s.length := by
  simp only [isP, Bool.and_eq_true, decide_eq_true_eq] at h
  exact (List.getElem?_eq_some_iff.1 h.1).1
theorem endAt_eq : endAt s q e = if e < s.length ∧ isP s q e 93 = false then endAt s q (e + 1) else e := by
  unfold endAt
  by_cases h : e < s.length
  · rw [show s.length - e = (s.length - (e + 1)) + 1 from by omega]
    simp only [endF, h, true_and]
    cases isP s q e 93 <;> simp
  · rw [show s.length - e = 0 from by omega]
    simp [endF, h]
theorem endAt_ge : e ≤ endAt s q e := by
  have key : ∀ f e, e ≤ endF s q f e := by
    intro f
    induction f with
    | zero => intro e; exact Nat.le_refl _
    | succ f ih => intro e; have := ih (e + 1); simp only [endF]; split <;> omega
  exact key _ _
theorem endAt_le (h : e ≤ s.length) : endAt s q e ≤ s.length := by
  have key : ∀ f e, e + f ≤ s.length → endF s q f e ≤ s.length := by
    intro f
    induction f with
    | zero => intro e h; exact h
    | succ f ih => intro e h; have := ih (e + 1); simp only [endF]; split <;> omega
  exact key _ _ (by omega)
theorem rgF_eq : ∀ (f g i : Nat), e - i ≤ f → e - i ≤ g → rgF s q e f i = rgF s q e g i
  | 0, 0, i, _, _ => rfl
  | 0, g + 1, i, h, _ => by simp only [rgF]; rw [if_neg (by omega)]
  | f + 1, 0, i, _, h => by simp only [rgF]; rw [if_neg (by omega)]
  | f + 1, g + 1, i, h1, h2 => by
    simp only [rgF]
    rw [rgF_eq f g (i + 3) (by omega) (by omega), rgF_eq f g (i + 1) (by omega) (by omega)]
theorem rgs_eq : rgs s q e i = if i < e then (if i + 2 < e ∧ isP s q (i + 1) 45 = true then (byt s i, byt s (i + 2)) :: rgs s q e (i + 3) else (byt s i, byt s i) :: rgs s q e (i + 1)) else [] := by
  unfold rgs
  by_cases h : i < e
  · rw [show e - i = (e - (i + 1)) + 1 from by omega]
    simp only [rgF]
    rw [rgF_eq (e - (i + 1)) (e - (i + 3)) (i + 3) (by omega) (by omega)]
  · rw [show e - i = 0 from by omega, if_neg h]; rfl
theorem rgs_len : (rgs s q e i).length ≤ e - i := by
  have key : ∀ f i, (rgF s q e f i).length ≤ f := by
    intro f
    induction f with
    | zero => intro i; simp [rgF]
    | succ f ih =>
      intro i
      have h1 := ih (i + 3)
      have h2 := ih (i + 1)
      simp only [rgF]
      split
      · split <;> simp only [List.length_cons] <;> omega
      · simp
  exact key _ _
theorem first_gt : i < first s q i := by unfold first; split <;> omega
theorem tokAt_gt : i < (tokAt s q i).2 := by
  unfold tokAt
  split
  · exact Nat.lt_succ_self _
  · split
    · exact Nat.lt_succ_self _
    · split
      · have h1 : first s q i + 1 ≤ clsE s q i := endAt_ge
        have h2 := first_gt (s := s) (q := q) (i := i)
        show i < clsE s q i + 1
        omega
      · exact Nat.lt_succ_self _
theorem tokAt_le (h : i < s.length) : (tokAt s q i).2 ≤ s.length := by
  unfold tokAt
  split
  · exact h
  · split
    · exact h
    · split
      · rename_i hc
        exact hc.2
      · exact h
theorem toksF_eq : ∀ (f g i : Nat), s.length - i ≤ f → s.length - i ≤ g → toksF s q f i = toksF s q g i
  | 0, 0, i, _, _ => rfl
  | 0, g + 1, i, h, _ => by simp only [toksF]; rw [if_neg (by omega)]
  | f + 1, 0, i, _, h => by simp only [toksF]; rw [if_neg (by omega)]
  | f + 1, g + 1, i, h1, h2 => by
    have := tokAt_gt (s := s) (q := q) (i := i)
    simp only [toksF]
    rw [toksF_eq f g (tokAt s q i).2 (by omega) (by omega)]
theorem toksA_eq : toksA s q i = if i < s.length then (tokAt s q i).1 :: toksA s q (tokAt s q i).2 else [] := by
  unfold toksA
  have := tokAt_gt (s := s) (q := q) (i := i)
  by_cases h : i < s.length
  · rw [show s.length - i = (s.length - (i + 1)) + 1 from by omega]
    simp only [toksF]
    rw [toksF_eq (s.length - (i + 1)) (s.length - (tokAt s q i).2) _ (by omega) (by omega)]
  · rw [show s.length - i = 0 from by omega, if_neg h]; rfl
theorem toksA_len : (toksA s q i).length ≤ s.length - i := by
  have key : ∀ f i, (toksF s q f i).length ≤ f := by
    intro f
    induction f with
    | zero => intro i; simp [toksF]
    | succ f ih => 
      intro i
      have := ih (tokAt s q i).2
      simp only [toksF]
      split
      · simp only [List.length_cons]; omega
      · simp
  exact key _ _
end

/-! ### What tokens fit -/
def Fit : List Tok → Str → Prop
  | [], s => s = []
  | t :: l, s => if t.1 = 3 then ∃ i, i ≤ s.length ∧ Fit l (s.drop i) else ∃ c r, s = c :: r ∧ fit1 t c = true ∧ Fit l r
def fitB : List Tok → Str → Bool
  | [], s => s.isEmpty
  | t :: l, s => if t.1 = 3 then (List.range (s.length + 1)).any fun i => fitB l (s.drop i) else match s with | c :: r => fit1 t c && fitB l r | [] => false
theorem fitB_iff {l : List Tok} : ∀ {s : Str}, fitB l s = true ↔ Fit l s := by
  induction l with
  | nil => intro s; simp [fitB, Fit]
  | cons t l ih =>
    intro s
    simp only [fitB, Fit]
    split
    · simp only [List.any_eq_true, List.mem_range, ih]
      constructor
      · rintro ⟨i, hi, h⟩; exact ⟨i, by omega, h⟩
      · rintro ⟨i, hi, h⟩; exact ⟨i, by omega, h⟩
    · cases s with
      | nil => simp
      | cons c r =>
        simp only [Bool.and_eq_true, ih]
        constructor
        · intro h; exact ⟨c, r, rfl, h.1, h.2⟩
        · rintro ⟨c', r', e, h1, h2⟩
          injection e with e1 e2
          subst e1; subst e2
          exact ⟨h1, h2⟩
theorem fit_app {a b : List Tok} : ∀ {s : Str}, Fit (a ++ b) s ↔ ∃ i, i ≤ s.length ∧ Fit a (s.take i) ∧ Fit b (s.drop i) := by
  induction a with
  | nil =>
    intro s
    simp only [List.nil_append, Fit]
    constructor
    · intro h; exact ⟨0, Nat.zero_le _, rfl, h⟩
    · rintro ⟨i, hi, h1, h2⟩
      have h3 := congrArg List.length h1
      simp only [List.length_take, List.length_nil] at h3
      have : i = 0 := by omega
      subst this
      exact h2
  | cons t a ih =>
    intro s
    simp only [List.cons_append, Fit]
    split
    · constructor
      · rintro ⟨j, hj, h⟩
        obtain ⟨i, hi, h1, h2⟩ := ih.1 h
        rw [List.length_drop] at hi
        refine ⟨j + i, by omega, ⟨j, by rw [List.length_take]; omega, ?_⟩, by rw [← List.drop_drop]; exact h2⟩
        rw [List.drop_take, Nat.add_sub_cancel_left]
        exact h1
      · rintro ⟨i, hi, ⟨j, hj, h1⟩, h2⟩
        rw [List.length_take] at hj
        refine ⟨j, by omega, ih.2 ⟨i - j, by rw [List.length_drop]; omega, ?_, ?_⟩⟩
        · rw [List.drop_take] at h1; exact h1
        · rw [List.drop_drop, show j + (i - j) = i from by omega]; exact h2
    · constructor
      · rintro ⟨c, r, rfl, hc, h⟩
        obtain ⟨i, hi, h1, h2⟩ := ih.1 h
        exact ⟨i + 1, by simp; omega, ⟨c, r.take i, rfl, hc, h1⟩, h2⟩
      · rintro ⟨i, hi, ⟨c, r, h0, hc, h1⟩, h2⟩
        cases s with
        | nil => simp at h0
        | cons c' s' =>
          cases i with
          | zero => simp at h0
          | succ i =>
            rw [List.take_succ_cons] at h0
            injection h0 with e1 e2
            subst e1; subst e2
            exact ⟨c', s', rfl, hc, ih.2 ⟨i, by simpa using hi, h1, h2⟩⟩

/-! ### Rows -/
theorem scanOr_len (a : Bool) (r : List Bool) : (scanOr a r).length = r.length := by
  induction r generalizing a with
  | nil => rfl
  | cons b r ih => simp [scanOr, ih]
theorem scanOr_get (r : List Bool) (a : Bool) (n : Nat) (h : n < r.length) : ((scanOr a r)[n]?.getD false = true) ↔ (a = true ∨ ∃ i, i ≤ n ∧ r[i]?.getD false = true) := by
  induction r generalizing a n with
  | nil => simp at h
  | cons b r ih =>
    cases n with
    | zero =>
      simp only [scanOr, List.getElem?_cons_zero, Option.getD_some, Bool.or_eq_true]
      constructor
      · rintro (h | h)
        · exact .inl h
        · exact .inr ⟨0, Nat.le_refl _, by simpa using h⟩
      · rintro (h | ⟨i, hi, h⟩)
        · exact .inl h
        · have : i = 0 := by omega
          subst this
          exact .inr (by simpa using h)
    | succ n =>
      simp only [scanOr, List.getElem?_cons_succ]
      rw [ih _ _ (by simpa using h), Bool.or_eq_true]
      constructor
      · rintro ((h | h) | ⟨i, hi, h⟩)
        · exact .inl h
        · exact .inr ⟨0, Nat.zero_le _, by simpa using h⟩
        · exact .inr ⟨i + 1, by omega, by simpa using h⟩
      · rintro (h | ⟨i, hi, h⟩)
        · exact .inl (.inl h)
        · cases i with
          | zero => exact .inl (.inr (by simpa using h))
          | succ i => exact .inr ⟨i, by omega, by simpa using h⟩
theorem row0_len (n : Nat) : (row0 n).length = n + 1 := by simp [row0]
theorem stepL_len {s : Str} {row : List Bool} {t : Tok} (h : row.length = s.length + 1) : (stepL s row t).length = s.length + 1 := by
  unfold stepL
  split
  · rw [scanOr_len, h]
  · simp [h]
theorem foldL_len {s : Str} : ∀ (l : List Tok) {row : List Bool}, row.length = s.length + 1 → (l.foldl (stepL s) row).length = s.length + 1
  | [], _, h => h
  | t :: l, _, h => foldL_len l (stepL_len h)
theorem reachL_len (l : List Tok) (s : Str) : (reachL l s).length = s.length + 1 := foldL_len l (row0_len _)
theorem zip_get {s : Str} {row : List Bool} {t : Tok} {m : Nat} (h : row.length = s.length + 1) (hm : m < s.length) : (List.zipWith (fun b c => b && fit1 t c) row s)[m]?.getD false = (row[m]?.getD false && fit1 t s[m]) := by
  rw [List.getElem?_zipWith, List.getElem?_eq_getElem (show m < row.length by omega), List.getElem?_eq_getElem hm]
  rfl
/-- A row behind tokens. -/
theorem foldL_get {s : Str} : ∀ (l : List Tok) {row : List Bool} (n : Nat), row.length = s.length + 1 → n ≤ s.length → ((l.foldl (stepL s) row)[n]?.getD false = true ↔ ∃ i, i ≤ n ∧ row[i]?.getD false = true ∧ Fit l ((s.take n).drop i))
  | [], row, n, h, hn => by
    simp only [List.foldl_nil, Fit]
    constructor
    · intro hr
      exact ⟨n, Nat.le_refl _, hr, by rw [List.drop_eq_nil_of_le (by simp; omega)]⟩
    · rintro ⟨i, hi, h1, h2⟩
      have := congrArg List.length h2
      simp only [List.length_drop, List.length_take, List.length_nil] at this
      have : i = n := by omega
      subst this
      exact h1
  | t :: l, row, n, h, hn => by
    rw [List.foldl_cons, foldL_get l n (stepL_len h) hn]
    simp only [Fit, stepL]
    split
    · constructor
      · rintro ⟨i, hi, h1, h2⟩
        rw [scanOr_get _ _ _ (by omega)] at h1
        rcases h1 with h1 | ⟨j, hj, h1⟩
        · cases h1
        · exact ⟨j, by omega, h1, i - j, by simp; omega, by rw [List.drop_drop, show j + (i - j) = i from by omega]; exact h2⟩
      · rintro ⟨j, hj, h1, d, hd, h2⟩
        simp only [List.length_drop, List.length_take] at hd
        refine ⟨j + d, by omega, ?_, by rw [← List.drop_drop]; exact h2⟩
        rw [scanOr_get _ _ _ (by omega)]
        exact .inr ⟨j, by omega, h1⟩
    · constructor
      · rintro ⟨i, hi, h1, h2⟩
        cases i with
        | zero => simp at h1
        | succ i =>
          rw [List.getElem?_cons_succ, zip_get h (by omega), Bool.and_eq_true] at h1
          refine ⟨i, by omega, h1.1, s[i], (s.take n).drop (i + 1), ?_, h1.2, h2⟩
          rw [List.drop_eq_getElem_cons (by simp; omega), List.getElem_take]
      · rintro ⟨i, hi, h1, c, r, h2, h3, h4⟩
        have hlt : i < n := by
          have := congrArg List.length h2
          simp only [List.length_drop, List.length_take, List.length_cons] at this
          omega
        rw [List.drop_eq_getElem_cons (by simp; omega), List.getElem_take] at h2
        injection h2 with e1 e2
        subst e1
        subst e2
        refine ⟨i + 1, by omega, ?_, h4⟩
        rw [List.getElem?_cons_succ, zip_get h (by omega), h1, h3]
        rfl
theorem reachL_get {l : List Tok} {s : Str} {n : Nat} (hn : n ≤ s.length) : (reachL l s)[n]?.getD false = fitB l (s.take n) := by
  rw [Bool.eq_iff_iff, fitB_iff, reachL, foldL_get l n (row0_len _) hn]
  constructor
  · rintro ⟨i, hi, h1, h2⟩
    cases i with
    | zero => exact h2
    | succ i =>
      rw [row0, List.getElem?_cons_succ, List.getElem?_replicate] at h1
      split at h1 <;> simp at h1
  · intro h
    exact ⟨0, Nat.zero_le _, rfl, h⟩
theorem matchL_eq (l : List Tok) (s : Str) : matchL l s = fitB l s := by
  unfold matchL
  rw [reachL_get (Nat.le_refl _), List.take_length]
end Go.Proofs.Ytgkhdiahncemcaa
