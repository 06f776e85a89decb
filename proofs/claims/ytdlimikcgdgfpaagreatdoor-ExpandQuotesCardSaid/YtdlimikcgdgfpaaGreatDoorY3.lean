/- Patterns: tokens of a text, what they fit, as plain functions; laws of these. Conditions: none. -/
import Derived.Test.YtdlimikcgdgfpaaGreatDoorY1
import Derived.Test.YtdlimikcgdgfpaaGreatDoorY2
import Derived.Lib.SlTrimSet
import Derived.Lib.ItoaNum
import Derived.Lib.AtoiErrMem
import Derived.Test.YtdlimikcgdgfpaaGreatDoorSE
import Derived.Lib.IfaceEq
import Derived.Test.YtdlimikcgdgfpaaGreatDoorS
import Derived.Test.YtdlimikcgdgfpaaGreatDoorU
import Derived.Stop.LaidErr
set_option linter.unusedVariables false
set_option linter.unusedSimpArgs false
set_option maxHeartbeats 4000000
set_option maxRecDepth 100000
open Nat renaming reduceEqDiff → Q1, reduceAdd → Q2, reduceSub → Q3, reduceMul → Q4, reduceLT → Q5, reduceLeDiff → Q6, sub_zero → Q7
open Int renaming reduceNeg → Q8, reduceToNat → Q9
namespace Go.Proofs.YtdlimikcgdgfpaaGreatDoor.G02
open E Go.Lib
abbrev Tok := Int × UInt8 × Bool × List (UInt8 × UInt8)
def isP (s : Str) (q : List Bool) (i : Nat) (c : UInt8) : Bool := decide (s[i]? = some c) && !(q[i]?.getD false)
def endF (s : Str) (q : List Bool) : Nat → Nat → Nat
  | 0, e => e
  | f + 1, e => if isP s q e 93 then e else endF s q f (e + 1)
def endAt (s : Str) (q : List Bool) (e : Nat) : Nat := endF s q (s.length - e) e
def byt (s : Str) (i : Nat) : UInt8 := s[i]?.getD 0
def rgF (s : Str) (q : List Bool) (e : Nat) : Nat → Nat → List (UInt8 × UInt8)
  | 0, _ => []
  | f + 1, i => if i < e then (if i + 2 < e ∧ isP s q (i + 1) 45 = true then (byt s i, byt s (i + 2)) :: rgF s q e f (i + 3) else (byt s i, byt s i) :: rgF s q e f (i + 1)) else []
def rgs (s : Str) (q : List Bool) (e i : Nat) : List (UInt8 × UInt8) := rgF s q e (e - i) i
def first (s : Str) (q : List Bool) (i : Nat) : Nat := if isP s q (i + 1) 33 then i + 2 else i + 1
def clsE (s : Str) (q : List Bool) (i : Nat) : Nat := endAt s q (first s q i + 1)
def tokAt (s : Str) (q : List Bool) (i : Nat) : Tok × Nat :=
  if isP s q i 63 then ((2, 0, false, []), i + 1)
  else if isP s q i 42 then ((3, 0, false, []), i + 1)
  else if isP s q i 91 = true ∧ clsE s q i < s.length then ((4, 0, isP s q (i + 1) 33, rgs s q (clsE s q i) (first s q i)), clsE s q i + 1)
  else ((1, byt s i, false, []), i + 1)
def toksF (s : Str) (q : List Bool) : Nat → Nat → List Tok
  | 0, _ => []
  | f + 1, i => if i < s.length then (tokAt s q i).1 :: toksF s q f (tokAt s q i).2 else []
def toksA (s : Str) (q : List Bool) (i : Nat) : List Tok := toksF s q (s.length - i) i
def toks (s : Str) (q : List Bool) : List Tok := toksA s q 0
def inR (c : UInt8) (r : UInt8 × UInt8) : Bool := decide (r.1.toNat ≤ c.toNat) && decide (c.toNat ≤ r.2.toNat)
def fit1 (t : Tok) (c : UInt8) : Bool :=
  if t.1 = 1 then decide (t.2.1 = c) else if t.1 = 2 then true else if t.1 = 4 then (t.2.2.2.any (inR c)) != t.2.2.1 else false
def scanOr : Bool → List Bool → List Bool
  | _, [] => []
  | a, b :: r => (a || b) :: scanOr (a || b) r
def stepL (s : Str) (row : List Bool) (t : Tok) : List Bool := if t.1 = 3 then scanOr false row else false :: List.zipWith (fun b c => b && fit1 t c) row s
def row0 (n : Nat) : List Bool := true :: List.replicate n false
def reachL (l : List Tok) (s : Str) : List Bool := l.foldl (stepL s) (row0 s.length)
def matchL (l : List Tok) (s : Str) : Bool := (reachL l s)[s.length]?.getD false
def pick (p : Nat → Bool) (longest : Bool) : Nat → Int
  | 0 => -1
  | n + 1 => if p n && (decide (pick p longest n < 0) || longest) then n else pick p longest n
def frontL (l : List Tok) (s : Str) (longest : Bool) : Int := pick (fun n => (reachL l s)[n]?.getD false) longest (s.length + 1)
def backL (l : List Tok) (s : Str) (longest : Bool) : Int := pick (fun n => matchL l (s.drop (s.length - n))) longest (s.length + 1)
section
variable {s : Str} {q : List Bool} {i e f g : Nat}
theorem endAt_eq : endAt s q e = if e < s.length ∧ isP s q e 93 = false then endAt s q (e + 1) else e := by
  unfold endAt
  by_cases h : e < s.length
  · rw [show s.length - e = (s.length - (e + 1)) + 1 from by omega]
    simp only [endF, h, true_and]
    cases isP s q e 93 <;> simp
  · rw [show s.length - e = 0 from by omega]
    simp [endF, h]
theorem endAt_ge : e ≤ endAt s q e := by
  have key : ∀ f e, e ≤ endF s q f e := by
    intro f
    induction f with
    | zero => intro e; exact Nat.le_refl _
    | succ f ih => intro e; have := ih (e + 1); simp only [endF]; split <;> omega
  exact key _ _
theorem rgF_eq : ∀ (f g i : Nat), e - i ≤ f → e - i ≤ g → rgF s q e f i = rgF s q e g i
  | 0, 0, i, _, _ => rfl
  | 0, g + 1, i, h, _ => by simp only [rgF]; rw [if_neg (by omega)]
  | f + 1, 0, i, _, h => by simp only [rgF]; rw [if_neg (by omega)]
  | f + 1, g + 1, i, h1, h2 => by
    simp only [rgF]
    rw [rgF_eq f g (i + 3) (by omega) (by omega), rgF_eq f g (i + 1) (by omega) (by omega)]
theorem rgs_eq : rgs s q e i = if i < e then (if i + 2 < e ∧ isP s q (i + 1) 45 = true then (byt s i, byt s (i + 2)) :: rgs s q e (i + 3) else (byt s i, byt s i) :: rgs s q e (i + 1)) else [] := by
  unfold rgs
  by_cases h : i < e
  · rw [show e - i = (e - (i + 1)) + 1 from by omega]
    simp only [rgF]
    rw [rgF_eq (e - (i + 1)) (e - (i + 3)) (i + 3) (by omega) (by omega)]
  · rw [show e - i = 0 from by omega, if_neg h]; rfl
theorem rgs_len : (rgs s q e i).length ≤ e - i := by
  have key : ∀ f i, (rgF s q e f i).length ≤ f := by
    intro f
    induction f with
    | zero => intro i; simp [rgF]
    | succ f ih =>
      intro i
      have h1 := ih (i + 3)
      have h2 := ih (i + 1)
      simp only [rgF]
      split
      · split <;> simp only [List.length_cons] <;> omega
      · simp
  exact key _ _
theorem first_gt : i < first s q i := by unfold first; split <;> omega
theorem tokAt_gt : i < (tokAt s q i).2 := by
  unfold tokAt
  split
  · exact Nat.lt_succ_self _
  · split
    · exact Nat.lt_succ_self _
    · split
      · have h1 : first s q i + 1 ≤ clsE s q i := endAt_ge
        have h2 := first_gt (s := s) (q := q) (i := i)
        show i < clsE s q i + 1
        omega
      · exact Nat.lt_succ_self _
theorem tokAt_le (h : i < s.length) : (tokAt s q i).2 ≤ s.length := by
  unfold tokAt
  split
  · exact h
  · split
    · exact h
    · split
      · rename_i hc
        exact hc.2
      · exact h
theorem toksF_eq : ∀ (f g i : Nat), s.length - i ≤ f → s.length - i ≤ g → toksF s q f i = toksF s q g i
  | 0, 0, i, _, _ => rfl
  | 0, g + 1, i, h, _ => by simp only [toksF]; rw [if_neg (by omega)]
  | f + 1, 0, i, _, h => by simp only [toksF]; rw [if_neg (by omega)]
  | f + 1, g + 1, i, h1, h2 => by
    have := tokAt_gt (s := s) (q := q) (i := i)
    simp only [toksF]
    rw [toksF_eq f g (tokAt s q i).2 (by omega) (by omega)]
theorem toksA_eq : toksA s q i = if i < s.length then (tokAt s q i).1 :: toksA s q (tokAt s q i).2 else [] := by
  unfold toksA
  have := tokAt_gt (s := s) (q := q) (i := i)
  by_cases h : i < s.length
  · rw [show s.length - i = (s.length - (i + 1)) + 1 from by omega]
    simp only [toksF]
    rw [toksF_eq (s.length - (i + 1)) (s.length - (tokAt s q i).2) _ (by omega) (by omega)]
  · rw [show s.length - i = 0 from by omega, if_neg h]; rfl
theorem toksA_len : (toksA s q i).length ≤ s.length - i := by
  have key : ∀ f i, (toksF s q f i).length ≤ f := by
    intro f
    induction f with
    | zero => intro i; simp [toksF]
    | succ f ih =>
      intro i
      have := ih (tokAt s q i).2
      simp only [toksF]
      split
      · simp only [List.length_cons]; omega
      · simp
  exact key _ _
end
def Fit : List Tok → Str → Prop
  | [], s => s = []
  | t :: l, s => if t.1 = 3 then ∃ i, i ≤ s.length ∧ Fit l (s.drop i) else ∃ c r, s = c :: r ∧ fit1 t c = true ∧ Fit l r
def fitB : List Tok → Str → Bool
  | [], s => s.isEmpty
  | t :: l, s => if t.1 = 3 then (List.range (s.length + 1)).any fun i => fitB l (s.drop i) else match s with | c :: r => fit1 t c && fitB l r | [] => false
theorem fitB_iff {l : List Tok} : ∀ {s : Str}, fitB l s = true ↔ Fit l s := by
  induction l with
  | nil => intro s; simp [fitB, Fit]
  | cons t l ih =>
    intro s
    simp only [fitB, Fit]
    split
    · simp only [List.any_eq_true, List.mem_range, ih]
      constructor
      · rintro ⟨i, hi, h⟩; exact ⟨i, by omega, h⟩
      · rintro ⟨i, hi, h⟩; exact ⟨i, by omega, h⟩
    · cases s with
      | nil => simp
      | cons c r =>
        simp only [Bool.and_eq_true, ih]
        constructor
        · intro h; exact ⟨c, r, rfl, h.1, h.2⟩
        · rintro ⟨c', r', e, h1, h2⟩
          injection e with e1 e2
          subst e1; subst e2
          exact ⟨h1, h2⟩
theorem scanOr_len (a : Bool) (r : List Bool) : (scanOr a r).length = r.length := by
  induction r generalizing a with
  | nil => rfl
  | cons b r ih => simp [scanOr, ih]
theorem scanOr_get (r : List Bool) (a : Bool) (n : Nat) (h : n < r.length) : ((scanOr a r)[n]?.getD false = true) ↔ (a = true ∨ ∃ i, i ≤ n ∧ r[i]?.getD false = true) := by
  induction r generalizing a n with
  | nil => simp at h
  | cons b r ih =>
    cases n with
    | zero =>
      simp only [scanOr, List.getElem?_cons_zero, Option.getD_some, Bool.or_eq_true]
      constructor
      · rintro (h | h)
        · exact .inl h
        · exact .inr ⟨0, Nat.le_refl _, by simpa using h⟩
      · rintro (h | ⟨i, hi, h⟩)
        · exact .inl h
        · have : i = 0 := by omega
          subst this
          exact .inr (by simpa using h)
    | succ n =>
      simp only [scanOr, List.getElem?_cons_succ]
      rw [ih _ _ (by simpa using h), Bool.or_eq_true]
      constructor
      · rintro ((h | h) | ⟨i, hi, h⟩)
        · exact .inl h
        · exact .inr ⟨0, Nat.zero_le _, by simpa using h⟩
        · exact .inr ⟨i + 1, by omega, by simpa using h⟩
      · rintro (h | ⟨i, hi, h⟩)
        · exact .inl (.inl h)
        · cases i with
          | zero => exact .inl (.inr (by simpa using h))
          | succ i => exact .inr ⟨i, by omega, by simpa using h⟩
theorem row0_len (n : Nat) : (row0 n).length = n + 1 := by simp [row0]
theorem stepL_len {s : Str} {row : List Bool} {t : Tok} (h : row.length = s.length + 1) : (stepL s row t).length = s.length + 1 := by
  unfold stepL
  split
  · rw [scanOr_len, h]
  · simp [h]
theorem foldL_len {s : Str} : ∀ (l : List Tok) {row : List Bool}, row.length = s.length + 1 → (l.foldl (stepL s) row).length = s.length + 1
  | [], _, h => h
  | t :: l, _, h => foldL_len l (stepL_len h)
theorem reachL_len (l : List Tok) (s : Str) : (reachL l s).length = s.length + 1 := foldL_len l (row0_len _)
theorem zip_get {s : Str} {row : List Bool} {t : Tok} {m : Nat} (h : row.length = s.length + 1) (hm : m < s.length) : (List.zipWith (fun b c => b && fit1 t c) row s)[m]?.getD false = (row[m]?.getD false && fit1 t s[m]) := by
  rw [List.getElem?_zipWith, List.getElem?_eq_getElem (show m < row.length by omega), List.getElem?_eq_getElem hm]
  rfl
theorem foldL_get {s : Str} : ∀ (l : List Tok) {row : List Bool} (n : Nat), row.length = s.length + 1 → n ≤ s.length → ((l.foldl (stepL s) row)[n]?.getD false = true ↔ ∃ i, i ≤ n ∧ row[i]?.getD false = true ∧ Fit l ((s.take n).drop i))
  | [], row, n, h, hn => by
    simp only [List.foldl_nil, Fit]
    constructor
    · intro hr
      exact ⟨n, Nat.le_refl _, hr, by rw [List.drop_eq_nil_of_le (by simp; omega)]⟩
    · rintro ⟨i, hi, h1, h2⟩
      have := congrArg List.length h2
      simp only [List.length_drop, List.length_take, List.length_nil] at this
      have : i = n := by omega
      subst this
      exact h1
  | t :: l, row, n, h, hn => by
    rw [List.foldl_cons, foldL_get l n (stepL_len h) hn]
    simp only [Fit, stepL]
    split
    · constructor
      · rintro ⟨i, hi, h1, h2⟩
        rw [scanOr_get _ _ _ (by omega)] at h1
        rcases h1 with h1 | ⟨j, hj, h1⟩
        · cases h1
        · exact ⟨j, by omega, h1, i - j, by simp; omega, by rw [List.drop_drop, show j + (i - j) = i from by omega]; exact h2⟩
      · rintro ⟨j, hj, h1, d, hd, h2⟩
        simp only [List.length_drop, List.length_take] at hd
        refine ⟨j + d, by omega, ?_, by rw [← List.drop_drop]; exact h2⟩
        rw [scanOr_get _ _ _ (by omega)]
        exact .inr ⟨j, by omega, h1⟩
    · constructor
      · rintro ⟨i, hi, h1, h2⟩
        cases i with
        | zero => simp at h1
        | succ i =>
          rw [List.getElem?_cons_succ, zip_get h (by omega), Bool.and_eq_true] at h1
          refine ⟨i, by omega, h1.1, s[i], (s.take n).drop (i + 1), ?_, h1.2, h2⟩
          rw [List.drop_eq_getElem_cons (by simp; omega), List.getElem_take]
      · rintro ⟨i, hi, h1, c, r, h2, h3, h4⟩
        have hlt : i < n := by
          have := congrArg List.length h2
          simp only [List.length_drop, List.length_take, List.length_cons] at this
          omega
        rw [List.drop_eq_getElem_cons (by simp; omega), List.getElem_take] at h2
        injection h2 with e1 e2
        subst e1
        subst e2
        refine ⟨i + 1, by omega, ?_, h4⟩
        rw [List.getElem?_cons_succ, zip_get h (by omega), h1, h3]
        rfl
theorem reachL_get {l : List Tok} {s : Str} {n : Nat} (hn : n ≤ s.length) : (reachL l s)[n]?.getD false = fitB l (s.take n) := by
  rw [Bool.eq_iff_iff, fitB_iff, reachL, foldL_get l n (row0_len _) hn]
  constructor
  · rintro ⟨i, hi, h1, h2⟩
    cases i with
    | zero => exact h2
    | succ i =>
      rw [row0, List.getElem?_cons_succ, List.getElem?_replicate] at h1
      split at h1 <;> simp at h1
  · intro h
    exact ⟨0, Nat.zero_le _, rfl, h⟩
theorem matchL_eq (l : List Tok) (s : Str) : matchL l s = fitB l s := by
  unfold matchL
  rw [reachL_get (Nat.le_refl _), List.take_length]
end Go.Proofs.YtdlimikcgdgfpaaGreatDoor.G02
namespace Go.Proofs.YtdlimikcgdgfpaaGreatDoor
open E Go.Lib S09 G02
def cutR (c : UInt8) (s : Str) : Str := (s.reverse.dropWhile (fun x => decide (x = c))).reverse
theorem cutR_nil (c : UInt8) : cutR c [] = [] := rfl
theorem cutR_snoc (c x : UInt8) (s : Str) : cutR c (s ++ [x]) = if x = c then cutR c s else s ++ [x] := by
  unfold cutR
  rw [List.reverse_append, List.reverse_cons, List.reverse_nil, List.nil_append, List.singleton_append, List.dropWhile_cons]
  by_cases h : x = c
  · simp [h]
  · simp [h]
theorem cutR_len (c : UInt8) (s : Str) : (cutR c s).length ≤ s.length := by
  unfold cutR
  rw [List.length_reverse]
  have := (List.dropWhile_suffix (fun x => decide (x = c)) (l := s.reverse)).length_le
  rw [List.length_reverse] at this
  exact this
section
variable {s : Str} {q q' : List Bool}
theorem isP_same (h : ∀ i : Nat, q[i]?.getD false = q'[i]?.getD false) : isP s q = isP s q' := by
  funext i c
  simp only [isP, h i]
theorem endF_same (h : isP s q = isP s q') : ∀ f e, endF s q f e = endF s q' f e
  | 0, _ => rfl
  | f + 1, e => by unfold endF; rw [h, endF_same h f (e + 1)]
theorem rgF_same (h : isP s q = isP s q') {e : Nat} : ∀ f i, rgF s q e f i = rgF s q' e f i
  | 0, _ => rfl
  | f + 1, i => by unfold rgF; rw [h, rgF_same h f (i + 3), rgF_same h f (i + 1)]
theorem tokAt_same (h : isP s q = isP s q') (i : Nat) : tokAt s q i = tokAt s q' i := by
  have h1 : first s q i = first s q' i := by unfold first; rw [h]
  have h2 : clsE s q i = clsE s q' i := by unfold clsE endAt; rw [h1, endF_same h]
  have h3 : ∀ e j, rgs s q e j = rgs s q' e j := fun e j => by unfold rgs; rw [rgF_same h]
  unfold tokAt
  rw [h, h1, h2, h3]
theorem toksF_same (h : isP s q = isP s q') : ∀ f i, toksF s q f i = toksF s q' f i
  | 0, _ => rfl
  | f + 1, i => by unfold toksF; rw [tokAt_same h, toksF_same h f]
theorem toks_same (h : ∀ i : Nat, q[i]?.getD false = q'[i]?.getD false) : toks s q = toks s q' := by
  unfold toks toksA
  exact toksF_same (isP_same h) _ _
theorem toks_plain (s : Str) (n : Nat) : toks s (List.replicate n false) = toks s [] := toks_same fun i => by
  rw [List.getElem?_replicate]
  split <;> rfl
end
theorem pick_spec (p : Nat → Bool) (b : Bool) : ∀ n, (pick p b n = -1 ∧ ∀ m, m < n → p m = false) ∨
    ∃ i : Nat, i < n ∧ pick p b n = (i : Int) ∧ p i = true ∧ (b = false → ∀ m, m < i → p m = false) ∧ (b = true → ∀ m, i < m → m < n → p m = false)
  | 0 => .inl ⟨rfl, fun m h => absurd h (Nat.not_lt_zero _)⟩
  | n + 1 => by
    unfold pick
    cases hp : p n with
    | false =>
      rw [Bool.false_and, if_neg (by decide)]
      rcases pick_spec p b n with ⟨h1, h2⟩ | ⟨i, h1, h2, h3, h4, h5⟩
      · refine .inl ⟨h1, fun m hm => ?_⟩
        by_cases e : m = n
        · rw [e]; exact hp
        · exact h2 m (by omega)
      · refine .inr ⟨i, by omega, h2, h3, h4, fun hb m hm hn => ?_⟩
        by_cases e : m = n
        · rw [e]; exact hp
        · exact h5 hb m hm (by omega)
    | true =>
      rw [Bool.true_and]
      rcases pick_spec p b n with ⟨h1, h2⟩ | ⟨i, h1, h2, h3, h4, h5⟩
      · rw [h1]
        exact .inr ⟨n, by omega, by simp, hp, fun _ => h2, fun _ m h6 h7 => by omega⟩
      · rw [h2]
        cases b with
        | false =>
          have : ¬ ((i : Int) < 0) := by omega
          rw [decide_eq_false this, Bool.or_false, if_neg (by decide)]
          exact .inr ⟨i, by omega, rfl, h3, h4, fun h => by cases h⟩
        | true =>
          rw [Bool.or_true, if_pos rfl]
          exact .inr ⟨n, by omega, rfl, hp, (fun h => by cases h), fun _ m h6 h7 => by omega⟩
theorem fields_quoted (t ifs : Str) : fieldsM [(t, true, false, false)] ifs = [(t, List.replicate t.length true)] := by
  simp [fieldsM, fieldsS, SS.piece, SS.zero, SS.add, SS.fin, SS.ends, SS.cur]
theorem one_of (t : Str) (q sp : Bool) : oneM [(t, q, sp, false)] = (t, List.replicate t.length q) := by
  simp [oneM]
def brks (q : Bool) : List Str → List Pc
  | [] => []
  | [a] => [(a, q, !q, false)]
  | a :: b :: l => (a, q, !q, false) :: ([], false, false, true) :: brks q (b :: l)
theorem brks_one (q : Bool) (a : Str) : brks q [a] = [(a, q, !q, false)] := rfl
theorem brks_snoc (q : Bool) : ∀ (l : List Str) (a : Str), brks q (l ++ [a]) = (if l = [] then [] else brks q l ++ [([], false, false, true)]) ++ [(a, q, !q, false)]
  | [], a => rfl
  | [x], a => rfl
  | x :: y :: l, a => by
    have ih := brks_snoc q (y :: l) a
    rw [if_neg (by simp)] at ih ⊢
    show (x, q, !q, false) :: ([], false, false, true) :: brks q (y :: l ++ [a]) = _
    rw [ih]
    rfl
theorem brks_many (q : Bool) (n : Nat) : ∀ (l : List Str), (∀ a, a ∈ l → a.length ≤ n) → many (brks q l) ≤ l.length * (n + 2)
  | [], _ => by simp [brks, many]
  | [a], h => by
    have := h a (by simp)
    simp only [brks, many, List.map_cons, List.map_nil, List.sum_cons, List.sum_nil, List.length_cons, List.length_nil]
    omega
  | a :: b :: l, h => by
    have h1 := h a (by simp)
    have ih := brks_many q n (b :: l) fun x hx => h x (by simp only [List.mem_cons] at hx ⊢; exact .inr hx)
    have e : many (brks q (a :: b :: l)) = (a.length + 1) + (0 + 1) + many (brks q (b :: l)) := by
      simp only [brks, many, List.map_cons, List.sum_cons, List.length_nil]; omega
    rw [e]
    simp only [List.length_cons, Nat.add_mul] at ih ⊢
    omega
theorem brks_len (q : Bool) (l : List Str) : (brks q l).length ≤ 2 * l.length := by
  induction l with
  | nil => exact Nat.le_refl _
  | cons a l ih =>
    cases l with
    | nil => simp [brks]
    | cons b l => simp only [brks, List.length_cons] at ih ⊢; omega
theorem fold_brks (ifs : Str) : ∀ (l : List Str) (s : SS), s.now = none → ((brks true l).foldl (SS.piece ifs) s).fin.out = s.out ++ l.map fun a => (a, List.replicate a.length true)
  | [], s, h => by simp [brks, SS.fin, h]
  | [a], s, h => by simp [brks, SS.piece, SS.add, SS.fin, SS.ends, SS.cur, h]
  | a :: b :: l, s, h => by
    show ((brks true (b :: l)).foldl (SS.piece ifs) (SS.piece ifs (SS.piece ifs s (a, true, false, false)) ([], false, false, true))).fin.out = _
    rw [fold_brks ifs (b :: l) _ (by simp [SS.piece, SS.add, SS.fin, SS.ends, SS.setM])]
    simp [SS.piece, SS.add, SS.fin, SS.ends, SS.cur, SS.setM, h]
theorem fields_brks (l : List Str) (ifs : Str) : fieldsM (brks true l) ifs = l.map fun a => (a, List.replicate a.length true) := by
  unfold fieldsM fieldsS
  rw [fold_brks ifs l SS.zero rfl]
  rfl
end Go.Proofs.YtdlimikcgdgfpaaGreatDoor
namespace Go.Proofs.YtdlimikcgdgfpaaGreatDoor
open E Go.Lib
inductive Rd where
  | ok (n : Nat)
  | bad (e : Int) (k : Nat)
  | cut
def Rd.add (m : Nat) : Rd → Rd
  | .ok n => .ok (m + n)
  | .bad e k => .bad e (m + k)
  | .cut => .cut
def posB (c : UInt8) : Str → Option Nat
  | [] => none
  | a :: l => if a = c then some 0 else (posB c l).map (· + 1)
def shut (m n deep : Nat) (r : Rd) : Rd := if 40 ≤ deep then .bad 3 m else
  match r with
  | .ok j => .ok (n + j)
  | .bad e j => .bad e (n + j)
  | .cut => .bad 11 m
def go : Nat → Option UInt8 → Str → Bool → Bool → Bool → Nat → Rd
  | 0, _, _, _, _, _, _ => .cut
  | f + 1, some e, l, q, d, b, deep =>
    match l with
    | [] => .cut
    | c :: t => if c = e then .ok 1 else
      match go f none (c :: t) q d b deep with
      | .ok n => (go f (some e) ((c :: t).drop n) q d b deep).add n
      | r => r
  | f + 1, none, l, q, d, b, deep =>
    match l with
    | [] => .cut
    | c :: t =>
      if c = 92 then .ok (if t = [] then 1 else 2)
      else if c = 39 ∧ q = false then (match posB 39 t with | some n => .ok (n + 2) | none => .bad 11 0)
      else if c = 34 ∧ d = true then shut 0 1 deep (go f (some 34) t true false false (deep + 1))
      else if c = 40 ∧ b = true then shut 0 1 deep (go f (some 41) t false true true (deep + 1))
      else if c = 36 then
        (match t with
        | [] => .ok 1
        | x :: r => if x = 123 then shut 0 2 deep (go f (some 125) r q true false (deep + 1))
          else if x = 40 then shut 1 2 deep (go f (some 41) r false true true (deep + 1))
          else .ok 1)
      else if c = 96 then .bad 10 0
      else .ok 1
end Go.Proofs.YtdlimikcgdgfpaaGreatDoor
namespace Go.Proofs.YtdlimikcgdgfpaaGreatDoor
open Tryz renaming prog → PG
open E renaming preR → P1, postR → P2, w_join → P3, w_stop → P4, dsc → P5
open E Go.Lib
def orV (c : UInt8) : Int := match binV .or (.int .u8 c.toNat) (.int .u8 32) with
  | some (.int _ n) => n
  | _ => 0
theorem or32 (c : UInt8) : binV .or (.int .u8 (c.toNat : Int)) (.int .u8 32) = some (.int .u8 (orV c)) := rfl
def alphaB (c : UInt8) : Bool := decide ((c.toNat : Int) = 95) || (decide (97 ≤ orV c) && decide (orV c ≤ 122))
def digitB (c : UInt8) : Bool := decide (48 ≤ (c.toNat : Int)) && decide ((c.toNat : Int) ≤ 57)
def frontF : Nat → List UInt8 → Nat
  | _, [] => 0
  | i, c :: t => if alphaB c || (decide (0 < i) && digitB c) then 1 + frontF (i + 1) t else 0
section
variable {σ σ' : AS} {X : Ce} {R : List Ck} {k : Value → AS → Prop} {s : List UInt8} {c : UInt8}
theorem alpha_c (hk : k (.bool (alphaB c)) σ) : kCall PG 143 [.int .u8 c.toNat] σ k := by
  refine f143 ?_
  unfold alphaB at hk
  by_cases h1 : (c.toNat : Int) = 95
  · (simp -dsimp (disch := first|exact P5|fail) only [↓P1,P2,↓P3,Q1,Q2,Q3,Q4,Q5,Q6,Q7,Q8,Q9, F143, h1])
    simp only [h1, decide_true, Bool.true_or] at hk
    exact hk
  · simp only [h1, decide_false, Bool.false_or] at hk
    by_cases h2 : 97 ≤ orV c
    · (simp -dsimp (disch := first|exact P5|fail) only [↓P1,P2,↓P3,Q1,Q2,Q3,Q4,Q5,Q6,Q7,Q8,Q9, F143, h1, or32, h2])
      simp only [h2, decide_true, Bool.true_and] at hk
      exact hk
    · (simp -dsimp (disch := first|exact P5|fail) only [↓P1,P2,↓P3,Q1,Q2,Q3,Q4,Q5,Q6,Q7,Q8,Q9, F143, h1, or32, h2])
      simp only [h2, decide_false, Bool.false_and] at hk
      exact hk
theorem digit_c (hk : k (.bool (digitB c)) σ) : kCall PG 144 [.int .u8 c.toNat] σ k := by
  refine f144 ?_
  unfold digitB at hk
  by_cases h2 : 48 ≤ (c.toNat : Int)
  · (simp -dsimp (disch := first|exact P5|fail) only [↓P1,P2,↓P3,Q1,Q2,Q3,Q4,Q5,Q6,Q7,Q8,Q9, F144, h2])
    simp only [h2, decide_true, Bool.true_and] at hk
    exact hk
  · (simp -dsimp (disch := first|exact P5|fail) only [↓P1,P2,↓P3,Q1,Q2,Q3,Q4,Q5,Q6,Q7,Q8,Q9, F144, h2])
    simp only [h2, decide_false, Bool.false_and] at hk
    exact hk
theorem front_c (hl : s.length ≤ maxLen) (hk : k (.int .i64 (frontF 0 s)) σ) : kCall PG 112 [.string (bs s)] σ k := by
  refine f112 ?_
  unfold maxLen at hl
  (try simp -dsimp (disch := first|exact P5|fail) only [↓P1,P2,↓P4,Q1,Q2,Q3,Q4,Q5,Q6,Q7,Q8,Q9, F112])
  refine join_now ?_
  refine loop_inv (fun nn xs s1 => ∃ j : Nat, xs = [.int .i64 j] ∧ σ = s1 ∧ j ≤ s.length ∧ j + frontF j (s.drop j) = frontF 0 s ∧ nn = s.length - j) _ ⟨0, rfl, rfl, Nat.zero_le _, by simp, rfl⟩ ?_
  rintro _ _ s1 again ⟨j, rfl, rfl, hj, hf, rfl⟩ hag
  by_cases hlt : j < s.length
  · rw [List.drop_eq_getElem_cons hlt] at hf
    simp only [frontF] at hf
    have hg : (s[j]?.getD 0) = s[j] := by simp [hlt]
    (try simp -dsimp (disch := first|exact P5|fail) only [↓P1,P2,↓P3,Q1,Q2,Q3,Q4,Q5,Q6,Q7,Q8,Q9])
    refine alpha_c ?_
    rw [hg]
    have next : (1 + frontF (j + 1) (s.drop (j + 1)) + j = frontF 0 s) → again [.int .i64 ((j + 1 : Nat) : Int)] σ := fun e => hag _ _ _ ⟨j + 1, rfl, rfl, hlt, by omega, rfl⟩ (by omega)
    cases hA : alphaB s[j] with
    | true =>
      rw [hA, Bool.true_or, if_pos rfl] at hf
      (try simp -dsimp (disch := first|exact P5|fail) only [↓P1,P2,↓P3,Q1,Q2,Q3,Q4,Q5,Q6,Q7,Q8,Q9])
      exact next (by omega)
    | false =>
      rw [hA, Bool.false_or] at hf
      by_cases hj0 : j = 0
      · subst hj0
        (try simp -dsimp (disch := first|exact P5|fail) only [↓P1,P2,↓P3,Q1,Q2,Q3,Q4,Q5,Q6,Q7,Q8,Q9])
        simp at hf
        rw [← hf] at hk
        exact hk
      · have h0 : 0 < j := by omega
        (try simp -dsimp (disch := first|exact P5|fail) only [↓P1,P2,↓P3,Q1,Q2,Q3,Q4,Q5,Q6,Q7,Q8,Q9])
        refine digit_c ?_
        rw [hg]
        simp only [h0, decide_true, Bool.true_and] at hf
        cases hD : digitB s[j] with
        | true =>
          rw [hD, if_pos rfl] at hf
          (try simp -dsimp (disch := first|exact P5|fail) only [↓P1,P2,↓P3,Q1,Q2,Q3,Q4,Q5,Q6,Q7,Q8,Q9])
          exact next (by omega)
        | false =>
          rw [hD] at hf
          simp at hf
          (try simp -dsimp (disch := first|exact P5|fail) only [↓P1,P2,↓P3,Q1,Q2,Q3,Q4,Q5,Q6,Q7,Q8,Q9])
          rw [hf]
          exact hk
  · (try simp -dsimp (disch := first|exact P5|fail) only [↓P1,P2,↓P3,Q1,Q2,Q3,Q4,Q5,Q6,Q7,Q8,Q9])
    have : s.drop j = [] := List.drop_of_length_le (by omega)
    rw [this] at hf
    simp only [frontF, Nat.add_zero] at hf
    rw [hf]
    exact hk
end
end Go.Proofs.YtdlimikcgdgfpaaGreatDoor
namespace Go.Proofs.YtdlimikcgdgfpaaGreatDoor.W05
open E Go.Lib
inductive Pt where
  | mk (kind : Int) (text : Str) (quote : Bool) (op : Int) (colon : Bool) (word : List Pt)
namespace Pt
def kind : Pt → Int | mk a _ _ _ _ _ => a
def text : Pt → Str | mk _ a _ _ _ _ => a
def quote : Pt → Bool | mk _ _ a _ _ _ => a
def op : Pt → Int | mk _ _ _ a _ _ => a
def colon : Pt → Bool | mk _ _ _ _ a _ => a
def word : Pt → List Pt | mk _ _ _ _ _ a => a
def more (p : Pt) (s : Str) : Pt := mk p.kind (p.text ++ s) p.quote p.op p.colon p.word
end Pt
abbrev litP (s : Str) (q : Bool) : Pt := .mk 1 s q 0 false []
def addP (out : List Pt) (p : Pt) : List Pt := match out[out.length - 1]? with
  | some l => if p.kind = 1 ∧ l.kind = 1 ∧ l.quote = p.quote then out.set (out.length - 1) (l.more p.text) else out ++ [p]
  | none => out ++ [p]
def withinB (way : Nat) : Bool := decide (way = 2) || decide (way = 3) || decide (way = 5)
def txt : List Pt → Nat
  | [] => 0
  | p :: l => p.text.length + txt l
theorem txt_append : ∀ (a b : List Pt), txt (a ++ b) = txt a + txt b
  | [], b => by simp [txt]
  | p :: a, b => by
    have := txt_append a b
    simp only [List.cons_append, txt, this]; omega
theorem txt_set : ∀ (a : List Pt) (n : Nat) (l p : Pt) (s : Str), a[n]? = some l → p = l.more s → txt (a.set n p) = txt a + s.length
  | [], n, l, p, s, h, _ => by simp at h
  | q :: a, 0, l, p, s, h, hp => by
    simp at h
    subst h hp
    simp only [List.set_cons_zero, txt, Pt.more, Pt.text, List.length_append]
    omega
  | q :: a, n + 1, l, p, s, h, hp => by
    have := txt_set a n l p s (by simpa using h) hp
    simp only [List.set_cons_succ, txt, this]
    omega
theorem add_txt (out : List Pt) (p : Pt) : txt (addP out p) = txt out + p.text.length := by
  unfold addP
  split
  · rename_i l hl
    split
    · exact txt_set _ _ _ _ _ hl rfl
    · rw [txt_append]; simp [txt]
  · rw [txt_append]; simp [txt]
theorem add_len (out : List Pt) (p : Pt) : (addP out p).length ≤ out.length + 1 := by
  unfold addP
  split
  · split <;> simp
  · simp
def FitW (out : List Pt) (n : Nat) : Prop := out.length ≤ n ∧ txt out ≤ n
theorem FitW.add {out : List Pt} {p : Pt} {n m : Nat} (h : FitW out n) (hp : p.text.length ≤ m) (h1 : 1 ≤ m) : FitW (addP out p) (n + m) := by
  have h2 := add_len out p
  have h3 := add_txt out p
  exact ⟨by have := h.1; omega, by have := h.2; omega⟩
theorem FitW.le {out : List Pt} {n m : Nat} (h : FitW out n) (hm : n ≤ m) : FitW out m := ⟨by have := h.1; omega, by have := h.2; omega⟩
end Go.Proofs.YtdlimikcgdgfpaaGreatDoor.W05
namespace Go.Proofs.YtdlimikcgdgfpaaGreatDoor.W05
open E Go.Lib
def Adj (w : List Pt) : Prop := ∀ i p q, w[i]? = some p → w[i + 1]? = some q → ¬ (q.kind = 1 ∧ p.kind = 1 ∧ p.quote = q.quote)
inductive OkP : Pt → Prop
  | mk (k : Int) (t : Str) (q : Bool) (o : Int) (c : Bool) (w : List Pt) (h1 : 1 ≤ k) (h2 : k ≤ 4) (h3 : 0 ≤ o) (h4 : o ≤ 9) (h5 : k = 2 ∨ (o = 0 ∧ c = false)) (h6 : k = 1 → q = true ∨ t ≠ []) (h7 : o < 2 → w = []) (h8 : c = true → 2 ≤ o ∧ o ≤ 5)
      (h9 : ∀ (i : Nat) (hi : i < w.length), OkP w[i]) (ha : Adj w) : OkP (.mk k t q o c w)
def ShW (w : List Pt) : Prop := (∀ (i : Nat) (hi : i < w.length), OkP w[i]) ∧ Adj w
theorem OkP.more {p : Pt} {s : Str} (h : OkP p) : OkP (p.more s) := by
  cases h with
  | mk k t q o c w h1 h2 h3 h4 h5 h6 h7 h8 h9 ha =>
    refine .mk k (t ++ s) q o c w h1 h2 h3 h4 h5 (fun hk => ?_) h7 h8 h9 ha
    rcases h6 hk with h | h
    · exact .inl h
    · exact .inr (by simp [h])
theorem ShW.add {out : List Pt} {p : Pt} (h : ShW out) (hp : OkP p) : ShW (addP out p) := by
  have app : ∀ (hn : ∀ l, out[out.length - 1]? = some l → ¬ (p.kind = 1 ∧ l.kind = 1 ∧ l.quote = p.quote)), ShW (out ++ [p]) := by
    intro hn
    refine ⟨fun i hi => ?_, fun i a b ha hb => ?_⟩
    · by_cases hlt : i < out.length
      · rw [List.getElem_append_left hlt]; exact h.1 i hlt
      · rw [List.getElem_append_right (by omega)]
        simpa using hp
    · by_cases hlt : i + 1 < out.length
      · rw [List.getElem?_append_left (by omega)] at ha
        rw [List.getElem?_append_left hlt] at hb
        exact h.2 i a b ha hb
      · have hi := (List.getElem?_eq_some_iff.1 hb).1
        simp only [List.length_append, List.length_singleton] at hi
        have e : i + 1 = out.length := by omega
        rw [List.getElem?_append_left (by omega)] at ha
        rw [List.getElem?_append_right (by omega), e, Nat.sub_self] at hb
        simp only [List.getElem?_cons_zero, Option.some.injEq] at hb
        subst hb
        exact hn a (by rw [← e, Nat.add_sub_cancel]; exact ha)
  unfold addP
  split
  · rename_i l hl
    split
    · rename_i hc
      have hlt := (List.getElem?_eq_some_iff.1 hl).1
      have ho : OkP l := by
        have := h.1 _ hlt
        rw [(List.getElem?_eq_some_iff.1 hl).2] at this
        exact this
      have at' : ∀ (j : Nat) (q : Pt), (out.set (out.length - 1) (l.more p.text))[j]? = some q → ∃ q0 : Pt, out[j]? = some q0 ∧ q.kind = q0.kind ∧ q.quote = q0.quote := by
        intro j q hq
        by_cases hj : out.length - 1 = j
        · subst hj
          rw [List.getElem?_set_self hlt] at hq
          injection hq with hq; subst hq
          exact ⟨l, hl, rfl, rfl⟩
        · rw [List.getElem?_set_ne hj] at hq
          exact ⟨q, hq, rfl, rfl⟩
      refine ⟨fun i hi => ?_, fun i a b ha hb => ?_⟩
      · rw [List.getElem_set]
        split
        · exact ho.more
        · exact h.1 i (by simpa using hi)
      · obtain ⟨a0, h1, e1, e2⟩ := at' _ _ ha
        obtain ⟨b0, h2, e3, e4⟩ := at' _ _ hb
        rw [e1, e2, e3, e4]
        exact h.2 i a0 b0 h1 h2
    · rename_i hc
      exact app (fun l' hl' => by rw [hl] at hl'; injection hl' with hl'; subst hl'; exact hc)
  · rename_i hn
    exact app (fun l' hl' => by rw [hn] at hl'; cases hl')
end Go.Proofs.YtdlimikcgdgfpaaGreatDoor.W05
namespace Go.Proofs.YtdlimikcgdgfpaaGreatDoor.W05
open E Go.Lib
mutual
def szPt : Pt → Nat
  | .mk _ t _ _ _ w => 1 + t.length + szW w
def szW : List Pt → Nat
  | [] => 0
  | p :: l => szPt p + szW l
end
theorem sz_get : ∀ (w : List Pt) (i : Nat) (hi : i < w.length), szPt w[i] ≤ szW w
  | [], i, hi => by simp at hi
  | p :: l, 0, hi => by unfold szW; simp
  | p :: l, i + 1, hi => by
    have := sz_get l i (by simpa using hi)
    unfold szW
    simp only [List.getElem_cons_succ]; omega
end Go.Proofs.YtdlimikcgdgfpaaGreatDoor.W05
namespace Go.Proofs.YtdlimikcgdgfpaaGreatDoor.W05
open Tryz renaming prog → PG
open E Go.Lib
open Go.RowKit
inductive RpPt (c : Ce) : Pt → List Value → Prop
  | mk (kind : Int) (text : Str) (quote : Bool) (op : Int) (colon : Bool) (w : List Pt) (a : Option Addr) (cap b o : Nat) (f : Nat → List Value) (ht : text.length ≤ maxLen) (hk : inI64 kind) (ho : inI64 op) (hc : w.length ≤ cap) (hm : cap ≤ maxLen)
      (ha : w = [] ∨ (a = some ⟨b, o, none⟩ ∧ ∀ i, i < w.length → ∀ j v, (f i)[j]? = some v → c b (o + i * 6 + j) = some v)) (hr : ∀ i (hi : i < w.length), RpPt c w[i] (f i)) :
      RpPt c (.mk kind text quote op colon w) [.int .i64 kind, .string (bs text), .bool quote, .int .i64 op, .bool colon, .slice a w.length cap]
theorem RpPt.len {c : Ce} {p : Pt} {cs : List Value} (h : RpPt c p cs) : cs.length = 6 := by cases h; rfl
theorem RpPt.ok {c : Ce} {p : Pt} {cs : List Value} (h : RpPt c p cs) : cs.all okCell = true := by cases h; rfl
theorem RpPt.mono {c c' : Ce} (hc : Ce.le c c') {p : Pt} {cs : List Value} (h : RpPt c p cs) : RpPt c' p cs := by
  induction h with
  | mk kind text quote op colon w a cap b o f ht hk ho hcap hm ha hr ih =>
    refine .mk kind text quote op colon w a cap b o f ht hk ho hcap hm ?_ ih
    rcases ha with ha | ⟨ha, hb⟩
    · exact .inl ha
    · exact .inr ⟨ha, fun i hi j v hv => hc _ _ _ (hb i hi j v hv)⟩
instance : Rp Pt := ⟨6, by decide, RpPt, fun h => RpPt.len h, fun h => RpPt.ok h, fun hc h => RpPt.mono hc h⟩
abbrev ptC (p : Pt) (v : Value) : List Value := [.int .i64 p.kind, .string (bs p.text), .bool p.quote, .int .i64 p.op, .bool p.colon, v]
theorem RpPt.get {c : Ce} {p : Pt} {cs : List Value} (h : RpPt c p cs) : ∃ v, cs = ptC p v ∧ p.text.length ≤ maxLen ∧ inI64 p.kind ∧ inI64 p.op ∧ RepL c v p.word := by
  cases h with
  | mk kind text quote op colon w a cap b o f ht hk ho hcap hm ha hr =>
    refine ⟨_, rfl, ht, hk, ho, a, cap, rfl, hcap, hm, ?_⟩
    rcases ha with ha | ⟨ha, hb⟩
    · exact .inl ha
    · exact .inr ⟨b, o, ha, fun i hi => ⟨f i, hr i hi, fun j v hv => hb i hi j v hv⟩⟩
theorem RpPt.rest {c : Ce} {p : Pt} {v : Value} (h : RpPt c p (ptC p v)) : p.text.length ≤ maxLen ∧ inI64 p.kind ∧ inI64 p.op ∧ RepL c v p.word := by
  obtain ⟨u, e, h1⟩ := h.get
  have : v = u := by
    have := congrArg (fun l : List Value => l[5]?) e
    simpa using this
  subst this
  exact h1
theorem RpPt.val {c : Ce} {p : Pt} {v : Value} (h : RpPt c p (ptC p v)) : ∃ a n cap, v = .slice a n cap := by
  obtain ⟨_, _, _, a, cap, h1, _⟩ := h.rest
  exact ⟨a, _, cap, h1⟩
theorem RpPt.made {c : Ce} {p : Pt} {v : Value} (ht : p.text.length ≤ maxLen) (hk : inI64 p.kind) (ho : inI64 p.op) (h : RepL c v p.word) : RpPt c p (ptC p v) := by
  obtain ⟨a, cap, rfl, hc, hm, h1⟩ := h
  cases p with
  | mk kind text quote op colon w =>
    rcases h1 with h1 | ⟨b, o, h1, h2⟩
    · have h1 : w = [] := h1
      subst h1
      exact .mk kind text quote op colon [] a cap 0 0 (fun _ => []) ht hk ho hc hm (.inl rfl) (fun i hi => by simp at hi)
    · have h2 : ∀ i (hi : i < w.length), ∃ cs, RpPt c w[i] cs ∧ ∀ j v, cs[j]? = some v → c b (o + i * 6 + j) = some v := h2
      refine .mk kind text quote op colon w a cap b o (fun i => if hi : i < w.length then Classical.choose (h2 i hi) else []) ht hk ho hc hm (.inr ⟨h1, fun i hi j v hv => ?_⟩) (fun i hi => ?_)
      · simp only [hi, dif_pos] at hv
        exact (Classical.choose_spec (h2 i hi)).2 j v hv
      · simp only [hi, dif_pos]
        exact (Classical.choose_spec (h2 i hi)).1
theorem RpPt.leaf {c : Ce} {p : Pt} (ht : p.text.length ≤ maxLen) (hk : inI64 p.kind) (ho : inI64 p.op) (hw : p.word = []) : RpPt c p (ptC p (.slice none 0 0)) :=
  .made ht hk ho (by rw [hw]; exact ⟨none, 0, rfl, Nat.le_refl _, Nat.zero_le _, .inl rfl⟩)
section
variable {X : Ce} {σ : AS} {v : Value}
theorem pts_at {l : List Pt} (h : RepL X v l) : ∃ a b o cap, v = .slice a l.length cap ∧ l.length ≤ cap ∧ cap ≤ maxLen ∧ ∀ i (hi : i < l.length), a = some ⟨b, o, none⟩ ∧ ∃ u, RpPt X l[i] (ptC l[i] u) ∧ RepL X u (l[i]).word ∧ (l[i]).text.length ≤ maxLen ∧ inI64 (l[i]).kind ∧ inI64 (l[i]).op ∧
    X b (o + i * 6) = some (.int .i64 (l[i]).kind) ∧ X b (o + i * 6 + 1) = some (.string (bs (l[i]).text)) ∧ X b (o + i * 6 + 2) = some (.bool (l[i]).quote) ∧ X b (o + i * 6 + 3) = some (.int .i64 (l[i]).op) ∧ X b (o + i * 6 + 4) = some (.bool (l[i]).colon) ∧ X b (o + i * 6 + 5) = some u := by
  obtain ⟨a, b, o, cap, h1, h2, h3, h4⟩ := h.get
  refine ⟨a, b, o, cap, h1, h2, h3, fun i hi => ?_⟩
  obtain ⟨h5, cs, h6, _, h7⟩ := h4 i hi
  have h6' : RpPt X l[i] cs := h6
  obtain ⟨u, rfl, g1, g2, g3, g4⟩ := h6'.get
  exact ⟨h5, u, h6, g4, g1, g2, g3, h7 0 _ rfl, h7 1 _ rfl, h7 2 _ rfl, h7 3 _ rfl, h7 4 _ rfl, h7 5 _ rfl⟩
end
section
variable {H : Type} {enc : TypeId × Value → H} {w : World} {base : Nat} {spare : Nat → Bool} {held : Bool}
theorem word_of {n : Nat} {cs : List Value} {x : DataW H × List MemPlace} (ih : ∀ cs x, DataW.trod enc PG w base spare held n 29 cs = some x → ∃ p : Pt, RpPt (E.start w).c p cs)
    (h : DataW.trod enc PG w base spare held (n + 1) 27 cs = some x) : ∃ (v : Value) (l : List Pt), cs = [v] ∧ RepL (E.start w).c v l := by
  rcases DataW.trod_slice Tryz.underlying27 h with ⟨hcs, _⟩ | ⟨a, len, cap, elems, rest, m, hn, hcs, _, _, hl, hc, hel, hall, _⟩
  · exact ⟨_, [], hcs, none, 0, rfl, Nat.le_refl _, Nat.zero_le _, .inl rfl⟩
  · injection hn with hn
    subst hn
    have hsz : PG.cellsOf 29 = 6 := by kernel_rfl
    rw [hsz] at hall
    have hget : ∀ i, i < len → ∃ c y, w.cells? base (a.add (i * 6)) 6 = some c ∧ DataW.trod enc PG w base spare held n 29 c = some y := by
      intro i hi
      have h1 := hall i hi
      have h2 : ∃ y, elems[i]? = some y := ⟨elems[i]'(by omega), by simp⟩
      obtain ⟨y, hy⟩ := h2
      rw [hy, Option.bind_eq_some_iff] at h1
      obtain ⟨c, hc1, hc2⟩ := h1
      exact ⟨c, y, hc1, hc2⟩
    have hg : ∀ i, i < len → w.cells? base (a.add (i * 6)) 6 = some ((w.cells? base (a.add (i * 6)) 6).getD []) := by
      intro i hi
      obtain ⟨c, y, h1, _⟩ := hget i hi
      rw [h1]; rfl
    obtain ⟨h1, h2⟩ := arr_of_cells hg (by decide)
    obtain ⟨l, hll, hp⟩ := list_of (n := len) (p := fun i p => RpPt (E.start w).c p ((w.cells? base (a.add (i * 6)) 6).getD [])) (fun i hi => by
      obtain ⟨c, y, h3, h4⟩ := hget i hi
      obtain ⟨p, hp⟩ := ih c y h4
      exact ⟨p, by rw [h3]; exact hp⟩)
    refine ⟨_, l, hcs, some a, cap, by rw [hll], by omega, hc, ?_⟩
    rcases h1 with h1 | ⟨b, o, h1, h3⟩
    · exact .inl (List.eq_nil_of_length_eq_zero (by omega))
    · exact .inr ⟨b, o, h1, fun i hi => ⟨_, hp i hi, fun j v hv => h3 i (by omega) j v hv⟩⟩
theorem part_of : ∀ (fuel : Nat) (cs : List Value) (x : DataW H × List MemPlace), DataW.trod enc PG w base spare held fuel 29 cs = some x → ∃ p : Pt, RpPt (E.start w).c p cs := by
  intro fuel
  induction fuel using Nat.strongRecOn with
  | ind fuel ih =>
    intro cs x h
    obtain ⟨xs, n, rfl, _, hl, hxl, hall⟩ := DataW.trod_struct Tryz.underlying29 h
    have hsz : PG.cellsOf 29 = 6 := by kernel_rfl
    rw [hsz] at hl
    match cs, hl with
    | [c0, c1, c2, c3, c4, c5], _ =>
    have hx : ∀ i, i < 6 → ∃ y, xs[i]? = some y := fun i hi => by
      have : i < xs.length := by rw [hxl]; exact hi
      exact ⟨xs[i], by simp [this]⟩
    obtain ⟨y0, e0⟩ := hx 0 (by decide)
    obtain ⟨y1, e1⟩ := hx 1 (by decide)
    obtain ⟨y2, e2⟩ := hx 2 (by decide)
    obtain ⟨y3, e3⟩ := hx 3 (by decide)
    obtain ⟨y4, e4⟩ := hx 4 (by decide)
    obtain ⟨y5, e5⟩ := hx 5 (by decide)
    have h0 := hall 0 _ rfl
    have h1 := hall 1 _ rfl
    have h2 := hall 2 _ rfl
    have h3 := hall 3 _ rfl
    have h4 := hall 4 _ rfl
    have h5 := hall 5 _ rfl
    rw [e0] at h0
    rw [e1] at h1
    rw [e2] at h2
    rw [e3] at h3
    rw [e4] at h4
    rw [e5] at h5
    have z1 : PG.cellsOf 3 = 1 := by kernel_rfl
    have z2 : PG.cellsOf 9 = 1 := by kernel_rfl
    have z3 : PG.cellsOf 4 = 1 := by kernel_rfl
    have z4 : PG.cellsOf 27 = 1 := by kernel_rfl
    change DataW.trod enc PG w base spare held n 3 (List.take (PG.cellsOf 3) (List.drop 0 [c0, c1, c2, c3, c4, c5])) = _ at h0
    change DataW.trod enc PG w base spare held n 9 (List.take (PG.cellsOf 9) (List.drop 1 [c0, c1, c2, c3, c4, c5])) = _ at h1
    change DataW.trod enc PG w base spare held n 4 (List.take (PG.cellsOf 4) (List.drop 2 [c0, c1, c2, c3, c4, c5])) = _ at h2
    change DataW.trod enc PG w base spare held n 3 (List.take (PG.cellsOf 3) (List.drop 3 [c0, c1, c2, c3, c4, c5])) = _ at h3
    change DataW.trod enc PG w base spare held n 4 (List.take (PG.cellsOf 4) (List.drop 4 [c0, c1, c2, c3, c4, c5])) = _ at h4
    change DataW.trod enc PG w base spare held n 27 (List.take (PG.cellsOf 27) (List.drop 5 [c0, c1, c2, c3, c4, c5])) = _ at h5
    simp only [z1, z2, z3, z4, List.drop_zero, List.drop_succ_cons, List.take_succ_cons, List.take_zero] at h0 h1 h2 h3 h4 h5
    obtain ⟨m0, g0, _, w0⟩ := DataW.trod_int Tryz.underlying3 h0
    obtain ⟨s1, g1, _, w1⟩ := DataW.trod_string Tryz.underlying9 h1
    obtain ⟨b2, g2, _⟩ := DataW.trod_bool Tryz.underlying4 h2
    obtain ⟨m3, g3, _, w3⟩ := DataW.trod_int Tryz.underlying3 h3
    obtain ⟨b4, g4, _⟩ := DataW.trod_bool Tryz.underlying4 h4
    have hw : ∃ (v : Value) (l : List Pt), [c5] = [v] ∧ RepL (E.start w).c v l := by
      cases n with
      | zero => unfold DataW.trod at h5; cases h5
      | succ n => exact word_of (fun cs x hc => ih n (by omega) cs x hc) h5
    obtain ⟨v, l, g5, hl5⟩ := hw
    injection g0 with g0 _
    injection g1 with g1 _
    injection g2 with g2 _
    injection g3 with g3 _
    injection g4 with g4 _
    injection g5 with g5 _
    subst g0 g1 g2 g3 g4 g5
    obtain ⟨t, rfl⟩ : ∃ t : Str, s1 = bs t := ⟨_, bs_of s1⟩
    rw [bs_size] at w1
    exact ⟨.mk m0 t b2 m3 b4 l, RpPt.made (c := (E.start w).c) (p := .mk m0 t b2 m3 b4 l) (v := c5) w1 (wf_i64 w0) (wf_i64 w3) hl5⟩
theorem arg_word {v : Value} {d : DataW H} {ps : List MemPlace} (h : DataW.Trod enc PG w base spare held 27 v d ps) (hv : v.cells.toList = [v]) : ∃ l : List Pt, RepL (E.start w).c v l := by
  obtain ⟨fuel, hf⟩ := h
  rw [hv] at hf
  cases fuel with
  | zero => unfold DataW.trod at hf; cases hf
  | succ n =>
    obtain ⟨u, l, h1, h2⟩ := word_of (fun cs x hc => part_of n cs x hc) hf
    injection h1 with h1 _
    subst h1
    exact ⟨l, h2⟩
end
end Go.Proofs.YtdlimikcgdgfpaaGreatDoor.W05
namespace Go.Proofs.YtdlimikcgdgfpaaGreatDoor.V08
open Tryz renaming prog → PG
open E renaming preR → P1, postR → P2, w_join → P3, w_stop → P4, dsc → P5
open E Go.Lib
def orV (c : UInt8) : Int := match binV .or (.int .u8 c.toNat) (.int .u8 32) with
  | some (.int _ n) => n
  | _ => 0
theorem or32 (c : UInt8) : binV .or (.int .u8 (c.toNat : Int)) (.int .u8 32) = some (.int .u8 (orV c)) := rfl
def alphaB (c : UInt8) : Bool := decide ((c.toNat : Int) = 95) || (decide (97 ≤ orV c) && decide (orV c ≤ 122))
def digitB (c : UInt8) : Bool := decide (48 ≤ (c.toNat : Int)) && decide ((c.toNat : Int) ≤ 57)
def frontF : Nat → List UInt8 → Nat
  | _, [] => 0
  | i, c :: t => if alphaB c || (decide (0 < i) && digitB c) then 1 + frontF (i + 1) t else 0
def nameB (s : List UInt8) : Bool := decide (s ≠ []) && decide (frontF 0 s = s.length)
section
variable {σ σ' : AS} {X : Ce} {R : List Ck} {k : Value → AS → Prop} {s : List UInt8} {c : UInt8}
theorem alpha_c (hk : k (.bool (alphaB c)) σ) : kCall PG 143 [.int .u8 c.toNat] σ k := by
  refine f143 ?_
  unfold alphaB at hk
  by_cases h1 : (c.toNat : Int) = 95
  · (simp -dsimp (disch := first|exact P5|fail) only [↓P1,P2,↓P3,Q1,Q2,Q3,Q4,Q5,Q6,Q7,Q8,Q9, F143, h1])
    simp only [h1, decide_true, Bool.true_or] at hk
    exact hk
  · simp only [h1, decide_false, Bool.false_or] at hk
    by_cases h2 : 97 ≤ orV c
    · (simp -dsimp (disch := first|exact P5|fail) only [↓P1,P2,↓P3,Q1,Q2,Q3,Q4,Q5,Q6,Q7,Q8,Q9, F143, h1, or32, h2])
      simp only [h2, decide_true, Bool.true_and] at hk
      exact hk
    · (simp -dsimp (disch := first|exact P5|fail) only [↓P1,P2,↓P3,Q1,Q2,Q3,Q4,Q5,Q6,Q7,Q8,Q9, F143, h1, or32, h2])
      simp only [h2, decide_false, Bool.false_and] at hk
      exact hk
theorem digit_c (hk : k (.bool (digitB c)) σ) : kCall PG 144 [.int .u8 c.toNat] σ k := by
  refine f144 ?_
  unfold digitB at hk
  by_cases h2 : 48 ≤ (c.toNat : Int)
  · (simp -dsimp (disch := first|exact P5|fail) only [↓P1,P2,↓P3,Q1,Q2,Q3,Q4,Q5,Q6,Q7,Q8,Q9, F144, h2])
    simp only [h2, decide_true, Bool.true_and] at hk
    exact hk
  · (simp -dsimp (disch := first|exact P5|fail) only [↓P1,P2,↓P3,Q1,Q2,Q3,Q4,Q5,Q6,Q7,Q8,Q9, F144, h2])
    simp only [h2, decide_false, Bool.false_and] at hk
    exact hk
theorem front_c (hl : s.length ≤ maxLen) (hk : k (.int .i64 (frontF 0 s)) σ) : kCall PG 112 [.string (bs s)] σ k := by
  refine f112 ?_
  unfold maxLen at hl
  (try simp -dsimp (disch := first|exact P5|fail) only [↓P1,P2,↓P4,Q1,Q2,Q3,Q4,Q5,Q6,Q7,Q8,Q9, F112])
  refine join_now ?_
  refine loop_inv (fun nn xs s1 => ∃ j : Nat, xs = [.int .i64 j] ∧ σ = s1 ∧ j ≤ s.length ∧ j + frontF j (s.drop j) = frontF 0 s ∧ nn = s.length - j) _ ⟨0, rfl, rfl, Nat.zero_le _, by simp, rfl⟩ ?_
  rintro _ _ s1 again ⟨j, rfl, rfl, hj, hf, rfl⟩ hag
  by_cases hlt : j < s.length
  · rw [List.drop_eq_getElem_cons hlt] at hf
    simp only [frontF] at hf
    have hg : (s[j]?.getD 0) = s[j] := by simp [hlt]
    (try simp -dsimp (disch := first|exact P5|fail) only [↓P1,P2,↓P3,Q1,Q2,Q3,Q4,Q5,Q6,Q7,Q8,Q9])
    refine alpha_c ?_
    rw [hg]
    have next : (1 + frontF (j + 1) (s.drop (j + 1)) + j = frontF 0 s) → again [.int .i64 ((j + 1 : Nat) : Int)] σ := fun e => hag _ _ _ ⟨j + 1, rfl, rfl, hlt, by omega, rfl⟩ (by omega)
    cases hA : alphaB s[j] with
    | true =>
      rw [hA, Bool.true_or, if_pos rfl] at hf
      (try simp -dsimp (disch := first|exact P5|fail) only [↓P1,P2,↓P3,Q1,Q2,Q3,Q4,Q5,Q6,Q7,Q8,Q9])
      exact next (by omega)
    | false =>
      rw [hA, Bool.false_or] at hf
      by_cases hj0 : j = 0
      · subst hj0
        (try simp -dsimp (disch := first|exact P5|fail) only [↓P1,P2,↓P3,Q1,Q2,Q3,Q4,Q5,Q6,Q7,Q8,Q9])
        simp at hf
        rw [← hf] at hk
        exact hk
      · have h0 : 0 < j := by omega
        (try simp -dsimp (disch := first|exact P5|fail) only [↓P1,P2,↓P3,Q1,Q2,Q3,Q4,Q5,Q6,Q7,Q8,Q9])
        refine digit_c ?_
        rw [hg]
        simp only [h0, decide_true, Bool.true_and] at hf
        cases hD : digitB s[j] with
        | true =>
          rw [hD, if_pos rfl] at hf
          (try simp -dsimp (disch := first|exact P5|fail) only [↓P1,P2,↓P3,Q1,Q2,Q3,Q4,Q5,Q6,Q7,Q8,Q9])
          exact next (by omega)
        | false =>
          rw [hD] at hf
          simp at hf
          (try simp -dsimp (disch := first|exact P5|fail) only [↓P1,P2,↓P3,Q1,Q2,Q3,Q4,Q5,Q6,Q7,Q8,Q9])
          rw [hf]
          exact hk
  · (try simp -dsimp (disch := first|exact P5|fail) only [↓P1,P2,↓P3,Q1,Q2,Q3,Q4,Q5,Q6,Q7,Q8,Q9])
    have : s.drop j = [] := List.drop_of_length_le (by omega)
    rw [this] at hf
    simp only [frontF, Nat.add_zero] at hf
    rw [hf]
    exact hk
theorem name_c (hl : s.length ≤ maxLen) (hk : k (.bool (nameB s)) σ) : kCall PG 73 [.string (bs s)] σ k := by
  refine f73 ?_
  unfold nameB at hk
  by_cases h0 : s = []
  · (try simp -dsimp (disch := first|exact P5|fail) only [↓P1,P2,↓P3,Q1,Q2,Q3,Q4,Q5,Q6,Q7,Q8,Q9, F73, h0])
    simp only [h0, ne_eq, not_true_eq_false, decide_false, Bool.false_and] at hk
    exact hk
  · (try simp -dsimp (disch := first|exact P5|fail) only [↓P1,P2,↓P3,Q1,Q2,Q3,Q4,Q5,Q6,Q7,Q8,Q9, F73, h0])
    refine front_c hl ?_
    simp only [ne_eq, h0, not_false_eq_true, decide_true, Bool.true_and] at hk
    by_cases h1 : frontF 0 s = s.length
    · (try simp -dsimp (disch := first|exact P5|fail) only [↓P1,P2,↓P3,Q1,Q2,Q3,Q4,Q5,Q6,Q7,Q8,Q9, h1])
      simp only [h1, decide_true] at hk
      exact hk
    · have h2 : ¬ ((frontF 0 s : Int) = s.length) := by omega
      (try simp -dsimp (disch := first|exact P5|fail) only [↓P1,P2,↓P3,Q1,Q2,Q3,Q4,Q5,Q6,Q7,Q8,Q9, h2])
      simp only [h1, decide_false] at hk
      exact hk
end
end Go.Proofs.YtdlimikcgdgfpaaGreatDoor.V08
namespace Go.Proofs.YtdlimikcgdgfpaaGreatDoor.V08
open Tryz renaming prog → PG
open E renaming preR → P1, postR → P2, w_join → P3, w_stop → P4, dsc → P5
open E Go.Lib
def StrC (cs : List Value) (o : Nat) (l : List Str) : Prop := ∀ i (hi : i < l.length), cs[o + i]? = some (.string (bs l[i])) ∧ l[i].length ≤ maxLen
def StrR (v : Value) (l : List Str) : Ck := ⟨fun F X σ => (v = .slice none 0 0 ∧ l = [] ∧ F = []) ∨ ∃ g o cap cs, v = .slice (some ⟨g, o, none⟩) l.length cap ∧ F = [g] ∧ σ.m g = some (.cells cs) ∧ l.length ≤ cap ∧ cap ≤ maxLen ∧ o + cap ≤ cs.length ∧ StrC cs o l,
  fun h hx hm => by
    rcases h with h | ⟨g, o, cap, cs, h1, h2, h3, h4⟩
    · exact .inl h
    · exact .inr ⟨g, o, cap, cs, h1, h2, (hm g (by rw [h2]; simp)).trans h3, h4⟩,
  fun h g hg => by
    rcases h with ⟨_, _, h⟩ | ⟨b, o, cap, cs, h1, h2, h3, h4⟩
    · rw [h] at hg; cases hg
    · rw [h2] at hg; simp at hg; subst hg; exact AS.lt h3⟩
section
variable {σ σ' : AS} {X : Ce} {R : List Ck} {k : Value → AS → Prop} {v : Value} {l ms : List Str} {n : Nat}
theorem StrR.get (h : Hs σ X (StrR v l :: R)) : ∃ a g o cap, v = .slice a l.length cap ∧ l.length ≤ cap ∧ cap ≤ maxLen ∧ (a = none → l = [] ∧ cap = 0) ∧ ∀ i (hi : i < l.length), a = some ⟨g, o, none⟩ ∧ ldOb (σ.c g (o + i)) (σ.m g) (o + i) = some (.string (bs l[i])) ∧ l[i].length ≤ maxLen := by
  obtain ⟨F, h1, _⟩ := h.s
  rcases h1 with ⟨rfl, rfl, _⟩ | ⟨g, o, cap, cs, rfl, _, h3, h4, h5, _, h6⟩
  · exact ⟨none, 0, 0, 0, rfl, Nat.le_refl _, by decide, fun _ => ⟨rfl, rfl⟩, fun i hi => by cases hi⟩
  · refine ⟨some ⟨g, o, none⟩, g, o, cap, rfl, h4, h5, fun h => (by cases h), fun i hi => ⟨rfl, ?_, (h6 i hi).2⟩⟩
    rw [h3]
    exact (h6 i hi).1
theorem StrR.drop (h : Hs σ X (StrR v l :: R)) (hn : n ≤ l.length) : ∃ v', subLV 1 v (some (.int .i64 n)) none = some v' ∧ Hs σ X (StrR v' (l.drop n) :: R) := by
  obtain ⟨F, h1, hk⟩ := h.turn
  rcases h1 with ⟨rfl, rfl, rfl⟩ | ⟨g, o, cap, cs, rfl, rfl, h3, h4, h5, h6, h7⟩
  · have hn0 : n = 0 := by simpa using hn
    subst hn0
    exact ⟨.slice none 0 0, rfl, hk (F' := []) (Chg.refl _ _) (.inl ⟨rfl, rfl, rfl⟩) (fun g hg => by cases hg)⟩
  · refine ⟨.slice (some ⟨g, if cap = n then o else o + n, none⟩) (l.length - n) (cap - n), (sub_l _ _ _ _ _ _).trans ?_, ?_⟩
    · rw [bnd_s, bnd_n, some_bind, some_bind, cut_in 1 _ _ _ _ (by omega) (by omega) (by omega)]
      have e1 : ((n : Int)).toNat = n := by omega
      have e2 : ((l.length : Int)).toNat = l.length := by omega
      rw [e1, e2]
      by_cases hc : cap = n
      · rw [if_pos hc, if_pos hc]
      · rw [if_neg hc, if_neg hc, Option.map_some, E.add_eq, Nat.mul_one]
    · refine hk (F' := [g]) (Chg.refl _ _) (.inr ⟨g, _, cap - n, cs, by rw [List.length_drop], rfl, h3, by rw [List.length_drop]; omega, by omega, ?_, ?_⟩) (fun g hg => .inl hg)
      · split <;> omega
      · intro i hi
        rw [List.length_drop] at hi
        have := h7 (n + i) (by omega)
        have hc : cap ≠ n := by omega
        rw [if_neg hc, List.getElem_drop, show o + n + i = o + (n + i) from by omega]
        exact this
def TxS (σ : AS) (u : Value) (ms : List Str) : Prop := ∃ a cap, u = .slice a ms.length cap ∧ (ms = [] ∨ ∃ b o, a = some ⟨b, o, none⟩ ∧ ∀ i (hi : i < ms.length), σ.ld b (o + i) = some (.string (bs ms[i])) ∧ ms[i].length ≤ maxLen)
theorem TxS.mono {u : Value} (h : TxS σ u ms) (hl : Ce.le σ.ld σ'.ld) : TxS σ' u ms := by
  obtain ⟨a, cap, h1, h2⟩ := h
  refine ⟨a, cap, h1, ?_⟩
  rcases h2 with h2 | ⟨b, o, h3, h4⟩
  · exact .inl h2
  · exact .inr ⟨b, o, h3, fun i hi => ⟨hl _ _ _ (h4 i hi).1, (h4 i hi).2⟩⟩
theorem TxS.rep {u : Value} (h : Hs σ X R) (hr : RepL X u ms) : TxS σ u ms := by
  obtain ⟨a, b, o, cap, h1, h2, h3, h4⟩ := strs_at hr
  refine ⟨a, cap, h1, ?_⟩
  cases ms with
  | nil => exact .inl rfl
  | cons x r => exact .inr ⟨b, o, (h4 0 (by simp)).1, fun i hi => ⟨h.x _ _ _ (h4 i hi).2.1, (h4 i hi).2.2⟩⟩
theorem TxS.row {u : Value} (h : Hs σ X (StrR u ms :: R)) : TxS σ u ms := by
  obtain ⟨a, b, o, cap, h1, h2, h3, _, h4⟩ := StrR.get h
  refine ⟨a, cap, h1, ?_⟩
  cases ms with
  | nil => exact .inl rfl
  | cons x r => exact .inr ⟨b, o, (h4 0 (by simp)).1, fun i hi => ⟨by rw [ld_ob]; exact (h4 i hi).2.1, (h4 i hi).2.2⟩⟩
theorem lds_strs {b : Nat} : ∀ {ms : List Str} {o : Nat}, (∀ i (hi : i < ms.length), σ.ld b (o + i) = some (.string (bs ms[i]))) → ldsS σ b o ms.length = some (ms.map fun s => .string (bs s))
  | [], _, _ => rfl
  | m :: ms, o, h => by
    have h0 := h 0 (by simp)
    rw [Nat.add_zero] at h0
    have ih := lds_strs (ms := ms) (o := o + 1) fun i hi => by
      have := h (i + 1) (by simpa using hi)
      rw [show o + 1 + i = o + (i + 1) from by omega]; simpa using this
    show (σ.ld b o).bind (fun v => (ldsS σ b (o + 1) ms.length).map (v :: ·)) = _
    rw [h0, ih]
    rfl
theorem clone_c {u : Value} (h : Hs σ X R) (hu : TxS σ u ms) (hlen : ms.length ≤ 1000000) (hk : ∀ v' σ', Hs σ' X (StrR v' ms :: R) → k v' σ') : kCall PG 40 [u] σ k := by
  obtain ⟨a, cap, rfl, hsrc⟩ := hu
  refine f40 ?_
  have fin : ∀ (v' : Value) (σ' : AS), OwnV σ' v' ms.length 1 (ms.map fun s => .string (bs s)) → Chg [] σ σ' → (∀ g, g ∈ ownL v' → σ.n ≤ g) → (∀ s, s ∈ ms → s.length ≤ maxLen) → k v' σ' := by
    intro v' σ' ho hc hg hml
    refine hk v' σ' ?_
    rcases ho with ⟨rfl, h0, _⟩ | ⟨g, c, sp, rfl, hm, hx, hcl, hle, hcm⟩
    · have : ms = [] := List.eq_nil_of_length_eq_zero h0
      subst this
      exact h.more (F := []) hc (.inl ⟨rfl, rfl, rfl⟩) (by simp)
    · refine h.more (F := [g]) hc (.inr ⟨g, 0, c, _, rfl, rfl, hm, hle, hcm, ?_, ?_⟩) (fun g' hg' => hg g' (by simpa [ownL] using hg'))
      · rw [hcl]; omega
      · intro i hi
        rw [Nat.zero_add, List.getElem?_append_left (by simpa using hi)]
        exact ⟨by simp [hi], hml _ (List.getElem_mem hi)⟩
  have g1 := h.new (cs := [])
  have own0 : OwnV (σ.new (.cells [])) (.slice (some ⟨σ.n, 0, none⟩) 0 0) 0 1 [] := .inr ⟨σ.n, 0, [], rfl, new_eq_, rfl, rfl, Nat.le_refl _, by decide⟩
  have go : kApp PG 22 22 (.slice (some ⟨σ.n, 0, none⟩) 0 0) (.slice a ms.length cap) (σ.new (.cells [])) k := by
    rcases hsrc with rfl | ⟨b, o, rfl, hat⟩
    · refine app0_by (sz := 1) (bytes := 16) Tryz.underlying22 (by kernel_rfl) own0 ?_
      exact fin _ _ own0 ((Chg.refl _ _).new _) (by simp [ownL]) (fun s hs => by cases hs)
    · have hl : Ce.le σ.ld (σ.new (.cells [])).ld := ((Chg.refl [] σ).new _).le
      refine app_by (sz := 1) (news := ms.map fun s => .string (bs s)) Tryz.underlying22 (by kernel_rfl) own0 ?_ ?_ (bytes := 16) (by omega) (by unfold maxLen; omega) fun v' σ' ho hc hg => ?_
      · rw [Nat.mul_one]
        exact lds_strs fun i hi => hl _ _ _ (hat i hi).1
      · rw [List.all_map]; exact List.all_eq_true.2 fun s _ => rfl
      · rw [Nat.zero_add, List.nil_append] at ho
        refine fin v' σ' ho ?_ ?_ (fun s hs => ?_)
        · refine ⟨by have := hc.n; rw [new_n] at this; omega, fun g hg _ => ?_, hc.c⟩
          rw [hc.m g (by rw [new_n]; omega) (by simp [ownL]; omega), new_ne (by omega)]
        · intro g hg'
          rcases hg g hg' with h5 | h5
          · simp [ownL] at h5; omega
          · rw [new_n] at h5; omega
        · obtain ⟨i, hi, rfl⟩ := List.mem_iff_getElem.1 hs
          exact (hat i hi).2
  cases a with
  | none =>
    rcases hsrc with rfl | ⟨b, o, h3, _⟩
    · (try simp -dsimp (disch := first|exact P5|fail) only [↓P1,P2,↓P3,Q1,Q2,Q3,Q4,Q5,Q6,Q7,Q8,Q9, F40])
      exact hk _ _ (h.more (F := []) (Chg.refl _ _) (.inl ⟨rfl, rfl, rfl⟩) (by simp))
    · cases h3
  | some p =>
    (try simp -dsimp (disch := first|exact P5|fail) only [↓P1,P2,↓P3,Q1,Q2,Q3,Q4,Q5,Q6,Q7,Q8,Q9, F40])
    exact go
end
end Go.Proofs.YtdlimikcgdgfpaaGreatDoor.V08
namespace Go.Proofs.YtdlimikcgdgfpaaGreatDoor.V08
open Tryz renaming prog → PG
open E renaming preR → P1, postR → P2, w_join → P3, w_stop → P4, dsc → P5
open E Go.Lib
structure VV where
  val : Str
  set : Bool
  exp : Bool
  ro : Bool
abbrev VL := List (Str × VV)
abbrev z0 : VV := ⟨[], false, false, false⟩
abbrev celV (n : Str) (x : VV) : List Value := [.string (bs n), .string (bs x.val), .bool x.set, .bool x.exp, .bool x.ro]
abbrev encV (n : Str) (x : VV) : Value := .agg (celV n x).toArray
def encL (l : VL) : List (Str × Value) := l.map fun p => (p.1, encV p.1 p.2)
def lkV (l : VL) (n : Str) : Option VV := (l.find? fun p => decide (p.1 = n)).map (·.2)
def getV (l : VL) (n : Str) : VV := (lkV l n).getD z0
def nmV (l : VL) (n : Str) : Str := if (lkV l n).isSome then n else []
def insV (l : VL) (n : Str) (x : VV) : VL := if (lkV l n).isSome then l.map (fun p => if p.1 = n then (n, x) else p) else l ++ [(n, x)]
def delV (l : VL) (n : Str) : VL := l.filter fun p => decide (p.1 ≠ n)
def turnV (l : VL) (n : Str) (x : VV) : VL := if x.set || x.exp || x.ro then insV l n x else delV l n
section
variable {l : VL} {n m : Str} {x : VV}
theorem lookup_encL (l : VL) (n : Str) : @List.lookup Str Value (@instBEqOfDecidableEq Str inferInstance) n (encL l) = (lkV l n).map (encV n) := by
  induction l with
  | nil => rfl
  | cons p l ih =>
    have hb : (@BEq.beq Str (@instBEqOfDecidableEq Str inferInstance) n p.1) = decide (n = p.1) := rfl
    show (match (@BEq.beq Str (@instBEqOfDecidableEq Str inferInstance) n p.1) with
      | true => some (encV p.1 p.2)
      | false => @List.lookup Str Value (@instBEqOfDecidableEq Str inferInstance) n (encL l)) = _
    rw [hb]
    unfold lkV at ih ⊢
    rw [List.find?_cons]
    by_cases h : n = p.1
    · subst h; simp
    · have h2 : ¬ p.1 = n := fun e => h e.symm
      simp only [h, h2, decide_false]
      exact ih
theorem ins_encL (l : VL) (n : Str) (x : VV) : ins (encL l) n (encV n x) = encL (insV l n x) := by
  unfold ins insV
  rw [show (@List.lookup Str Value (@instBEqOfDecidableEq Str inferInstance) n (encL l)).isSome = (lkV l n).isSome from by rw [lookup_encL, Option.isSome_map]]
  split
  · unfold encL
    rw [List.map_map, List.map_map]
    apply List.map_congr_left
    intro p _
    simp only [Function.comp]
    split <;> rfl
  · unfold encL
    rw [List.map_append]; rfl
theorem del_encL (l : VL) (n : Str) : del (encL l) n = encL (delV l n) := by
  unfold del delV encL
  rw [List.filter_map]
  rfl
theorem lk_ins : lkV (insV l n x) m = if m = n then some x else lkV l m := by
  unfold insV
  split
  · rename_i h
    induction l with
    | nil => simp [lkV] at h
    | cons p l ih =>
      unfold lkV at ih h ⊢
      rw [List.map_cons, List.find?_cons, List.find?_cons]
      rw [List.find?_cons] at h
      by_cases hp : p.1 = n
      · simp only [hp, if_true]
        by_cases hm : m = n
        · subst hm; simp
        · have : ¬ n = m := fun e => hm e.symm
          simp only [this, decide_false, hm, if_false]
          clear ih h
          induction l with
          | nil => rfl
          | cons q l ih2 =>
            rw [List.map_cons, List.find?_cons, List.find?_cons]
            by_cases hq : q.1 = n
            · simp only [hq, if_true, this, decide_false]
              exact ih2
            · simp only [hq, if_false]
              by_cases hqm : q.1 = m
              · simp [hqm]
              · simp only [hqm, decide_false]
                exact ih2
      · simp only [hp, decide_false] at h
        simp only [hp, if_false]
        by_cases hpm : p.1 = m
        · have : ¬ m = n := fun e => hp (hpm.trans e)
          simp [hpm, this]
        · simp only [hpm, decide_false]
          exact ih h
  · rename_i h
    unfold lkV at h ⊢
    rw [List.find?_append]
    by_cases hm : m = n
    · subst hm
      cases hf : l.find? (fun p => decide (p.1 = m)) with
      | none => simp
      | some q => rw [hf] at h; simp at h
    · have : ¬ n = m := fun e => hm e.symm
      simp [this, hm]
theorem lk_del : lkV (delV l n) m = if m = n then none else lkV l m := by
  unfold lkV delV
  rw [List.find?_filter]
  by_cases hm : m = n
  · subst hm
    rw [if_pos rfl]
    rw [List.find?_eq_none.2]
    · rfl
    · intro a _
      simp
  · rw [if_neg hm]
    congr 1
    congr 1
    funext a
    by_cases ha : a.1 = m
    · have : ¬ a.1 = n := fun e => hm (ha.symm.trans e)
      simp [ha, hm]
    · simp [ha]
theorem get_turn : getV (turnV l n x) m = if m = n then (if x.set || x.exp || x.ro then x else z0) else getV l m := by
  unfold turnV getV
  split
  · rw [lk_ins]; split <;> rfl
  · rw [lk_del]; split <;> rfl
end
end Go.Proofs.YtdlimikcgdgfpaaGreatDoor.V08
namespace Go.Proofs.YtdlimikcgdgfpaaGreatDoor.V08
open Tryz renaming prog → PG
open E renaming preR → P1, postR → P2, w_join → P3, w_stop → P4, dsc → P5
open E Go.Lib
abbrev pv (q : Nat) : Value := .pointer (some ⟨q, 0, none⟩)
abbrev VsL (v : Nat) (zero : Str) (av : Value) (ar : List Str) (m : Nat) (st : Int) (l : VL) (R : List Ck) : List Ck :=
  Cel v [.string (bs zero), av, .map (some m), .int .i64 st] :: Mp (κ := Str) m none (encL l) :: StrR av ar :: R
def Vs (v : Nat) (zero : Str) (ar : List Str) (st : Int) (l : VL) : Ck := Exs (fun _ : Value × Nat => True) fun x => VsL v zero x.1 ar x.2 st l []
section
variable {σ σ' : AS} {X : Ce} {R : List Ck} {k : Value → AS → Prop} {v m : Nat} {av u : Value} {zero n val : Str} {ar ms : List Str} {st : Int} {l : VL} {x x' : VV} {w : Bool}
theorem Vs.open (h : Hs σ X (Vs v zero ar st l :: R)) : ∃ av m, Hs σ X (VsL v zero av ar m st l R) := by
  obtain ⟨x, _, h1⟩ := h.opened
  exact ⟨_, _, h1⟩
theorem Vs.close (h : Hs σ X (VsL v zero av ar m st l R)) : Hs σ X (Vs v zero ar st l :: R) :=
  Hs.closed (p := fun _ : Value × Nat => True) ⟨av, m⟩ trivial h
theorem zero_var (w : World) : (zeroValue 96).run PG w = .ok (encV [] z0) w := by kernel_rfl
theorem vlk_by (h : Hs σ X (Mp (κ := Str) m none (encL l) :: R)) (hK : k (encV (nmV l n) (getV l n)) σ) : kGen PG (.lk 90 false) [.map (some m), .string (bs n)] σ k := by
  refine lk_by (κ := Str) (k := n) h Tryz.underlying90 Tryz.underlying9 zero_var ?_
  have e : (@List.lookup Str Value (@instBEqOfDecidableEq Str inferInstance) n (encL l)).getD (encV [] z0) = encV (nmV l n) (getV l n) := by
    rw [lookup_encL]
    unfold nmV getV
    cases lkV l n <;> rfl
  rw [← e] at hK
  exact hK
theorem vnew_c (h : Hs σ X R) (hu : TxS σ u ms) (hlen : ms.length ≤ 1000000) (hk : ∀ v σ', Hs σ' X (Vs v zero ms 0 [] :: R) → k (pv v) σ') : kCall PG 13 [.string (bs zero), u] σ k := by
  refine f13 ?_
  (try simp -dsimp (disch := first|exact P5|fail) only [↓P1,P2,↓P3,Q1,Q2,Q3,Q4,Q5,Q6,Q7,Q8,Q9, F13])
  refine clone_c h hu hlen fun v' σ1 h1 => ?_
  have h2 := (h1.newMap (κ := Str)).new (cs := [.string (bs zero), v', .map (some σ1.n), .int .i64 0])
  obtain ⟨a, g, o, cap, rfl, _⟩ := StrR.get h1
  (simp -dsimp (disch := first|exact P5|fail) only [↓P1,P2,↓P3,Q1,Q2,Q3,Q4,Q5,Q6,Q7,Q8,Q9])
  exact hk _ _ (Vs.close (h2.swap.swap))
theorem get_c (h : Hs σ X (Vs v zero ar st l :: R)) (hk : ∀ σ', Hs σ' X (Vs v zero ar st l :: R) → k (.tuple #[.string (bs (getV l n).val), .bool (getV l n).set]) σ') : kCall PG 21 [pv v, .string (bs n)] σ k := by
  obtain ⟨av, m, h1⟩ := Vs.open h
  refine f21 ?_
  (simp -dsimp (disch := first|exact P5|fail) only [↓P1,P2,↓P3,Q1,Q2,Q3,Q4,Q5,Q6,Q7,Q8,Q9, F21, h1.obj])
  refine vlk_by h1.drop ?_
  (simp -dsimp (disch := first|exact P5|fail) only [↓P1,P2,↓P3,Q1,Q2,Q3,Q4,Q5,Q6,Q7,Q8,Q9])
  exact hk _ (h.gar (((Chg.refl _ _).new _).put (.inr (Nat.le_refl _)) _))
theorem del_insM (L : List (Str × Value)) (n : Str) (u : Value) : del (ins L n u) n = del L n := by
  unfold ins del
  split
  · rename_i h
    clear h
    induction L with
    | nil => rfl
    | cons p l ih =>
      rw [List.map_cons, List.filter_cons, List.filter_cons, ih]
      by_cases hp : p.1 = n
      · simp [hp]
      · simp [hp]
  · simp
theorem turn_c {how : Value} (h : Hs σ X (Vs v zero ar st l :: R)) (hn : n.length ≤ maxLen)
    (hhow : ∀ (p : Nat) (σ1 : AS) (A B C : Ck) (k1 : Value → AS → Prop), Hs σ1 X (Cel p (celV n x) :: A :: B :: C :: R) → x = getV l n → (∀ v1 σ2 n', ((x'.set || x'.exp || x'.ro) = true → n' = n) → Hs σ2 X (Cel p (celV n' x') :: A :: B :: C :: R) → k1 v1 σ2) → kCallv PG how [pv p] σ1 k1)
    (hx : x = getV l n)
    (h16 : nameB n = false → ∀ σ', Hs σ' X (Vs v zero ar st l :: R) → k (.int .i64 16) σ')
    (h15 : nameB n = true → w = true → x.ro = true → ∀ σ', Hs σ' X (Vs v zero ar st l :: R) → k (.int .i64 15) σ')
    (hk : nameB n = true → (w = true → x.ro = false) → ∀ σ', Hs σ' X (Vs v zero ar st (turnV l n x') :: R) → k (.int .i64 0) σ') :
    kCall PG 41 [pv v, .string (bs n), .bool w, how] σ k := by
  obtain ⟨av, m, h1⟩ := Vs.open h
  refine f41 ?_
  (try simp -dsimp (disch := first|exact P5|fail) only [↓P1,P2,↓P4,Q1,Q2,Q3,Q4,Q5,Q6,Q7,Q8,Q9, F41])
  refine join_by fun J hJ => ?_
  (try simp -dsimp (disch := first|exact P5|fail) only [↓P1,P2,↓P4,Q1,Q2,Q3,Q4,Q5,Q6,Q7,Q8,Q9])
  refine name_c hn ?_
  cases hN : nameB n with
  | false =>
    (try simp -dsimp (disch := first|exact P5|fail) only [↓P1,P2,↓P3,Q1,Q2,Q3,Q4,Q5,Q6,Q7,Q8,Q9])
    exact h16 hN _ h
  | true =>
    have tail : (w = true → x.ro = false) → J [] σ := by
      intro hw
      refine hJ _ _ ?_
      clear hJ
      (try simp -dsimp (disch := first|exact P5|fail) only [↓P1,P2,↓P4,Q1,Q2,Q3,Q4,Q5,Q6,Q7,Q8,Q9, h1.obj])
      refine vlk_by h1.drop ?_
      rw [← hx]
      have g1 := h1.new (cs := celV [] z0)
      (simp -dsimp (disch := first|exact P5|fail) only [↓P1,P2,↓P3,Q1,Q2,Q3,Q4,Q5,Q6,Q7,Q8,Q9])
      refine hhow _ _ _ _ _ _ (g1.put (cs' := celV n x)) hx fun v1 σ2 n' hn' g4 => ?_
      (simp -dsimp (disch := first|exact P5|fail) only [↓P1,P2,↓P3,Q1,Q2,Q3,Q4,Q5,Q6,Q7,Q8,Q9, g4.obj, g4.obj1])
      refine mup_by (κ := Str) (k := n) (g4.front 2 rfl) Tryz.underlying90 Tryz.underlying9 fun σ3 g5 => ?_
      by_cases hd : (x'.set || x'.exp || x'.ro) = true
      · rw [hn' hd] at g5
        rw [ins_encL] at g5
        have e : turnV l n x' = insV l n x' := by unfold turnV; rw [if_pos hd]
        have g6 : Hs σ3 X (VsL v zero av ar m st (insV l n x') R) := Hs.swap (Hs.drop (g5.front 1 rfl))
        have hk' := hk hN hw σ3 (by rw [e]; exact Vs.close g6)
        cases h5 : x'.set
        · cases h6 : x'.exp
          · cases h7 : x'.ro
            · rw [h5, h6, h7] at hd; cases hd
            · (try simp -dsimp (disch := first|exact P5|fail) only [↓P1,P2,↓P3,Q1,Q2,Q3,Q4,Q5,Q6,Q7,Q8,Q9, g5.obj1, h5, h6, h7])
              exact hk'
          · (try simp -dsimp (disch := first|exact P5|fail) only [↓P1,P2,↓P3,Q1,Q2,Q3,Q4,Q5,Q6,Q7,Q8,Q9, g5.obj1, h5, h6])
            exact hk'
        · (try simp -dsimp (disch := first|exact P5|fail) only [↓P1,P2,↓P3,Q1,Q2,Q3,Q4,Q5,Q6,Q7,Q8,Q9, g5.obj1, h5])
          exact hk'
      · have h567 : x'.set = false ∧ x'.exp = false ∧ x'.ro = false := by
          simp only [Bool.or_eq_true, not_or, Bool.not_eq_true] at hd
          exact ⟨hd.1.1, hd.1.2, hd.2⟩
        obtain ⟨h5, h6, h7⟩ := h567
        have e : turnV l n x' = delV l n := by unfold turnV; rw [if_neg hd]
        (simp -dsimp (disch := first|exact P5|fail) only [↓P1,P2,↓P3,Q1,Q2,Q3,Q4,Q5,Q6,Q7,Q8,Q9, g5.obj1, g5.obj2, h5, h6, h7])
        refine del_by (κ := Str) (k := n) g5 Tryz.underlying90 Tryz.underlying9 fun σ4 g6 => ?_
        (try simp -dsimp (disch := first|exact P5|fail) only [↓P1,P2,↓P3,Q1,Q2,Q3,Q4,Q5,Q6,Q7,Q8,Q9])
        rw [del_insM, del_encL] at g6
        have g7 : Hs σ4 X (VsL v zero av ar m st (delV l n) R) := Hs.swap (Hs.drop (g6.front 1 rfl))
        exact hk hN hw σ4 (by rw [e]; exact Vs.close g7)
    cases w with
    | false =>
      (try simp -dsimp (disch := first|exact P5|fail) only [↓P1,P2,↓P3,Q1,Q2,Q3,Q4,Q5,Q6,Q7,Q8,Q9])
      exact tail (fun h => by cases h)
    | true =>
      (simp -dsimp (disch := first|exact P5|fail) only [↓P1,P2,↓P3,Q1,Q2,Q3,Q4,Q5,Q6,Q7,Q8,Q9, h1.obj])
      refine vlk_by h1.drop ?_
      rw [← hx]
      (try simp -dsimp (disch := first|exact P5|fail) only [↓P1,P2,↓P3,Q1,Q2,Q3,Q4,Q5,Q6,Q7,Q8,Q9])
      cases hr : x.ro with
      | true =>
        (try simp -dsimp (disch := first|exact P5|fail) only [↓P1,P2,↓P3,Q1,Q2,Q3,Q4,Q5,Q6,Q7,Q8,Q9])
        exact h15 hN rfl hr _ h
      | false =>
        (try simp -dsimp (disch := first|exact P5|fail) only [↓P1,P2,↓P3,Q1,Q2,Q3,Q4,Q5,Q6,Q7,Q8,Q9])
        exact tail (fun _ => hr)
end
end Go.Proofs.YtdlimikcgdgfpaaGreatDoor.V08
namespace Go.Proofs.YtdlimikcgdgfpaaGreatDoor.V08
open Tryz renaming prog → PG
open E renaming preR → P1, postR → P2, w_join → P3, w_stop → P4, dsc → P5
open E Go.Lib
structure VM where
  ar : List Str
  st : Int
  l : VL
abbrev OpV := Int × Str × Str × Int × List Str
def kd (k : Int) : Int := (k.tmod 8 + 8) % 8
def turnE (S : VM) (n : Str) (w : Bool) (x' : VV) : Int × VM := if nameB n = false then (16, S) else if (w && (getV S.l n).ro) = true then (15, S) else (0, ⟨S.ar, S.st, turnV S.l n x'⟩)
def setV (S : VM) (n val : Str) : Int × VM := turnE S n true ⟨val, true, (getV S.l n).exp, (getV S.l n).ro⟩
def exportV (S : VM) (n : Str) : Int × VM := turnE S n false ⟨(getV S.l n).val, (getV S.l n).set, true, (getV S.l n).ro⟩
def roV (S : VM) (n : Str) : Int × VM := turnE S n false ⟨(getV S.l n).val, (getV S.l n).set, (getV S.l n).exp, true⟩
abbrev Vm (v : Nat) (zero : Str) (S : VM) : Ck := Vs v zero S.ar S.st S.l
section
variable {σ σ' : AS} {X : Ce} {R : List Ck} {k : Value → AS → Prop} {v m : Nat} {u : Value} {zero n val : Str} {ms : List Str} {i : Int} {S : VM} {w : Bool} {x' : VV}
theorem turnE_c {how : Value} (h : Hs σ X (Vm v zero S :: R)) (hn : n.length ≤ maxLen)
    (hhow : ∀ (p : Nat) (σ1 : AS) (A B C : Ck) (k1 : Value → AS → Prop), Hs σ1 X (Cel p (celV n (getV S.l n)) :: A :: B :: C :: R) → (∀ v1 σ2 n', ((x'.set || x'.exp || x'.ro) = true → n' = n) → Hs σ2 X (Cel p (celV n' x') :: A :: B :: C :: R) → k1 v1 σ2) → kCallv PG how [pv p] σ1 k1)
    (hk : ∀ σ', Hs σ' X (Vm v zero (turnE S n w x').2 :: R) → k (.int .i64 (turnE S n w x').1) σ') :
    kCall PG 41 [pv v, .string (bs n), .bool w, how] σ k := by
  refine turn_c (x := getV S.l n) (x' := x') h hn (fun p σ1 A B C k1 h1 _ h2 => hhow p σ1 A B C k1 h1 h2) rfl (fun h16 σ' h1 => ?_) (fun hN hw hr σ' h1 => ?_) (fun hN hw σ' h1 => ?_)
  · have e : turnE S n w x' = (16, S) := by unfold turnE; rw [if_pos h16]
    rw [e] at hk
    exact hk _ h1
  · have e : turnE S n w x' = (15, S) := by unfold turnE; rw [if_neg (by rw [hN]; decide), if_pos (by rw [hw, hr]; rfl)]
    rw [e] at hk
    exact hk _ h1
  · have e : turnE S n w x' = (0, ⟨S.ar, S.st, turnV S.l n x'⟩) := by
      unfold turnE
      rw [if_neg (by rw [hN]; decide), if_neg]
      cases w with
      | false => simp
      | true => rw [hw rfl]; simp
    rw [e] at hk
    exact hk _ h1
theorem set_c (h : Hs σ X (Vm v zero S :: R)) (hn : n.length ≤ maxLen) (hk : ∀ σ', Hs σ' X (Vm v zero (setV S n val).2 :: R) → k (.int .i64 (setV S n val).1) σ') :
    kCall PG 14 [pv v, .string (bs n), .string (bs val)] σ k := by
  refine f14 ?_
  (simp -dsimp (disch := first|exact P5|fail) only [↓P1,P2,↓P3,Q1,Q2,Q3,Q4,Q5,Q6,Q7,Q8,Q9, F14])
  have h1 := h.new (cs := [.string (bs val)])
  refine turnE_c (x' := ⟨val, true, (getV S.l n).exp, (getV S.l n).ro⟩) (R := Cel σ.n [.string (bs val)] :: R) h1.swap hn (fun p σ1 A B C k1 h2 h3 => ⟨k42_ok, ?_⟩) fun σ2 h2 => ?_
  · refine f42 ?_
    have h4 : Hs σ1 X (Cel σ.n [.string (bs val)] :: Cel p (celV n (getV S.l n)) :: A :: B :: C :: R) := h2.front 4 rfl
    have h5 := h2.put (cs' := celV n ⟨val, (getV S.l n).set, (getV S.l n).exp, (getV S.l n).ro⟩)
    (simp -dsimp (disch := first|exact P5|fail) only [↓P1,P2,↓P3,Q1,Q2,Q3,Q4,Q5,Q6,Q7,Q8,Q9, F42, h4.obj, h4.obj1, h5.obj])
    refine h3 _ _ n (fun _ => rfl) ?_
    exact h2.put
  · (try simp -dsimp (disch := first|exact P5|fail) only [↓P1,P2,↓P3,Q1,Q2,Q3,Q4,Q5,Q6,Q7,Q8,Q9])
    exact hk _ (h2.swap.drop)
theorem ro_c (h : Hs σ X (Vm v zero S :: R)) (hn : n.length ≤ maxLen) (hk : ∀ σ', Hs σ' X (Vm v zero (roV S n).2 :: R) → k (.int .i64 (roV S n).1) σ') :
    kCall PG 48 [pv v, .string (bs n)] σ k := by
  refine f48 ?_
  (try simp -dsimp (disch := first|exact P5|fail) only [↓P1,P2,↓P3,Q1,Q2,Q3,Q4,Q5,Q6,Q7,Q8,Q9, F48])
  refine turnE_c (x' := ⟨(getV S.l n).val, (getV S.l n).set, (getV S.l n).exp, true⟩) h hn (fun p σ1 A B C k1 h2 h3 => ⟨k82_ok, ?_⟩) fun σ2 h2 => ?_
  · refine f82 ?_
    (simp -dsimp (disch := first|exact P5|fail) only [↓P1,P2,↓P3,Q1,Q2,Q3,Q4,Q5,Q6,Q7,Q8,Q9, F82, h2.obj])
    exact h3 _ _ n (fun _ => rfl) h2.put
  · (try simp -dsimp (disch := first|exact P5|fail) only [↓P1,P2,↓P3,Q1,Q2,Q3,Q4,Q5,Q6,Q7,Q8,Q9])
    exact hk _ h2
end
end Go.Proofs.YtdlimikcgdgfpaaGreatDoor.V08
namespace Go.Proofs.YtdlimikcgdgfpaaGreatDoor.V08
open Tryz renaming prog → PG
open E renaming preR → P1, postR → P2, w_join → P3, w_stop → P4, dsc → P5
open E Go.Lib
section
variable {σ σ' : AS} {X : Ce} {R : List Ck} {k : Value → AS → Prop} {v m : Nat} {u : Value} {zero n val : Str} {ms : List Str} {i q : Int} {S : VM} {w : Bool} {x' : VV}
theorem status_c (h : Hs σ X (Vm v zero S :: R)) (hk : k (.int .i64 S.st) σ) : kCall PG 61 [pv v] σ k := by
  obtain ⟨av, m, h1⟩ := Vs.open h
  refine f61 ?_
  (simp -dsimp (disch := first|exact P5|fail) only [↓P1,P2,↓P3,Q1,Q2,Q3,Q4,Q5,Q6,Q7,Q8,Q9, F61, h1.obj])
  exact hk
theorem args_c (h : Hs σ X (Vm v zero S :: R)) (hlen : S.ar.length ≤ 1000000) (hk : ∀ v' σ', Hs σ' X (StrR v' S.ar :: Vm v zero S :: R) → k v' σ') : kCall PG 30 [pv v] σ k := by
  obtain ⟨av, m, h1⟩ := Vs.open h
  refine f30 ?_
  have h2 : Hs σ X (StrR av S.ar :: Cel v [.string (bs zero), av, .map (some m), .int .i64 S.st] :: Mp (κ := Str) m none (encL S.l) :: R) := h1.front 2 rfl
  have ht := TxS.row h2
  obtain ⟨a, g, o, cap, rfl, _⟩ := StrR.get h2
  (simp -dsimp (disch := first|exact P5|fail) only [↓P1,P2,↓P3,Q1,Q2,Q3,Q4,Q5,Q6,Q7,Q8,Q9, F30, h1.obj])
  refine clone_c h2 ht hlen fun v' σ1 h3 => ?_
  (try simp -dsimp (disch := first|exact P5|fail) only [↓P1,P2,↓P3,Q1,Q2,Q3,Q4,Q5,Q6,Q7,Q8,Q9])
  have h4 : Hs σ1 X (StrR (.slice a S.ar.length cap) S.ar :: Cel v [.string (bs zero), .slice a S.ar.length cap, .map (some m), .int .i64 S.st] :: Mp (κ := Str) m none (encL S.l) :: StrR v' S.ar :: R) := h3.un3
  exact hk _ _ (Hs.swap (Vs.close h4.un2))
end
end Go.Proofs.YtdlimikcgdgfpaaGreatDoor.V08
namespace Go.Proofs.YtdlimikcgdgfpaaGreatDoor.G02
open Tryz renaming prog → PG
open E renaming preR → P1, postR → P2, w_join → P3, w_stop → P4, dsc → P5
open E Go.Lib
section
variable {σ σ' : AS} {X : Ce} {R : List Ck} {k : Value → AS → Prop} {s : Str} {q : List Bool} {i e p : Nat} {c : UInt8} {v vq : Value}
theorem u8_eq {a b : UInt8} : ((a.toNat : Int) = (b.toNat : Int)) = (a = b) := by
  rw [eq_iff_iff]
  constructor
  · intro h
    exact UInt8.toNat_inj.1 (by omega)
  · rintro rfl; rfl
theorem isP_t (h : s[i]? = some c) (h2 : q[i]?.getD false = false) : isP s q i c = true := by simp [isP, h, h2]
theorem isP_f1 (h : s[i]? ≠ some c) : isP s q i c = false := by simp [isP, h]
theorem bool_at {l : List Bool} (h : RepL X v l) : ∃ a b o cap, v = .slice a l.length cap ∧ l.length ≤ cap ∧ cap ≤ maxLen ∧ ∀ i (hi : i < l.length), a = some ⟨b, o, none⟩ ∧ X b (o + i) = some (.bool l[i]) := by
  obtain ⟨a, b, o, cap, hv, hc, hm, hat⟩ := h.get
  refine ⟨a, b, o, cap, hv, hc, hm, fun i hi => ?_⟩
  obtain ⟨ha, cs, hr, _, hx⟩ := hat i hi
  obtain rfl : cs = [.bool l[i]] := hr
  have h0 : X b (o + i * 1 + 0) = some (.bool l[i]) := hx 0 _ rfl
  rw [Nat.mul_one, Nat.add_zero] at h0
  exact ⟨ha, h0⟩
theorem plain_c {n m : Int} (hn : n = (i : Nat)) (hm : m = (c.toNat : Nat)) (hq : RepL X vq q) (hs : s.length ≤ maxLen) (h : Hs σ X R) (hk : ∀ σ', Hs σ' X R → k (.bool (isP s q i c)) σ') :
    kCall PG 76 [.agg [.string (bs s), vq].toArray, .int .i64 n, .int .u8 m] σ k := by
  subst hn; subst hm
  obtain ⟨a, b, o, cap, rfl, hcap, hmax, hat⟩ := bool_at hq
  refine f76 ?_
  have h1 := h.new (cs := [.string (bs s), .slice a q.length cap])
  by_cases h0 : i < s.length
  · have e0 : s[i]? = some s[i] := List.getElem?_eq_getElem h0
    have e1 : (s[i]?.getD 0) = s[i] := by rw [e0]; rfl
    by_cases h2 : s[i] = c
    · by_cases h3 : i < q.length
      · obtain ⟨rfl, hc⟩ := hat i h3
        have g := h1.ldx hc
        rw [new_c] at g
        (try simp -dsimp (disch := first|exact P5|fail) only [↓P1,P2,↓P3,Q1,Q2,Q3,Q4,Q5,Q6,Q7,Q8,Q9, F76, e1, g, u8_eq, h2])
        have := hk _ h1.drop
        rw [show isP s q i c = !q[i] from by simp [isP, e0, h2, List.getElem?_eq_getElem h3]] at this
        exact this
      · (try simp -dsimp (disch := first|exact P5|fail) only [↓P1,P2,↓P3,Q1,Q2,Q3,Q4,Q5,Q6,Q7,Q8,Q9, F76, e1, u8_eq, h2])
        have := hk _ h1.drop
        rw [isP_t (by rw [e0, h2]) (by rw [List.getElem?_eq_none (by omega)]; rfl)] at this
        exact this
    · (try simp -dsimp (disch := first|exact P5|fail) only [↓P1,P2,↓P3,Q1,Q2,Q3,Q4,Q5,Q6,Q7,Q8,Q9, F76, e1, u8_eq, h2])
      have := hk _ h1.drop
      rw [isP_f1 (by rw [e0]; simpa using h2)] at this
      exact this
  · (try simp -dsimp (disch := first|exact P5|fail) only [↓P1,P2,↓P3,Q1,Q2,Q3,Q4,Q5,Q6,Q7,Q8,Q9, F76])
    have := hk _ h1.drop
    rw [isP_f1 (by rw [List.getElem?_eq_none (by omega)]; simp)] at this
    exact this
theorem tok_cells {t : Tok} {cs : List Value} (h : Rp.rp X t cs) : ∃ v, cs = [.int .i64 t.1, .int .u8 t.2.1.toNat, .bool t.2.2.1, v] ∧ inI64 t.1 ∧ RepL X v t.2.2.2 := by
  obtain ⟨x, _, rfl, ⟨rfl, h1⟩, y, _, rfl, rfl, z, _, rfl, rfl, u, rfl, h2⟩ := h
  exact ⟨u, rfl, h1, h2⟩
theorem tok_rp {t : Tok} (h1 : inI64 t.1) (h2 : RepL X v t.2.2.2) : Rp.rp X t [.int .i64 t.1, .int .u8 t.2.1.toNat, .bool t.2.2.1, v] :=
  ⟨[_], _, rfl, ⟨rfl, h1⟩, [_], _, rfl, rfl, [_], _, rfl, rfl, v, rfl, h2⟩
theorem rng_cells {r : UInt8 × UInt8} {cs : List Value} (h : Rp.rp X r cs) : cs = [.int .u8 r.1.toNat, .int .u8 r.2.toNat] := by
  obtain ⟨x, y, rfl, rfl, rfl⟩ := h
  rfl
theorem tok_at {l : List Tok} (h : RepL X v l) : ∃ a b o cap, v = .slice a l.length cap ∧ l.length ≤ cap ∧ cap ≤ maxLen ∧ ∀ i (hi : i < l.length), a = some ⟨b, o, none⟩ ∧ ∃ u, inI64 l[i].1 ∧ RepL X u l[i].2.2.2 ∧
    X b (o + i * 4) = some (.int .i64 l[i].1) ∧ X b (o + i * 4 + 1) = some (.int .u8 l[i].2.1.toNat) ∧ X b (o + i * 4 + 2) = some (.bool l[i].2.2.1) ∧ X b (o + i * 4 + 3) = some u := by
  obtain ⟨a, b, o, cap, hv, hc, hm, hat⟩ := h.get
  refine ⟨a, b, o, cap, hv, hc, hm, fun i hi => ?_⟩
  obtain ⟨ha, cs, hr, _, hx⟩ := hat i hi
  obtain ⟨u, rfl, h1, h2⟩ := tok_cells hr
  exact ⟨ha, u, h1, h2, hx 0 _ rfl, hx 1 _ rfl, hx 2 _ rfl, hx 3 _ rfl⟩
theorem rng_at {l : List (UInt8 × UInt8)} (h : RepL X v l) : ∃ a b o cap, v = .slice a l.length cap ∧ l.length ≤ cap ∧ cap ≤ maxLen ∧ ∀ i (hi : i < l.length), a = some ⟨b, o, none⟩ ∧
    X b (o + i * 2) = some (.int .u8 l[i].1.toNat) ∧ X b (o + i * 2 + 1) = some (.int .u8 l[i].2.toNat) := by
  obtain ⟨a, b, o, cap, hv, hc, hm, hat⟩ := h.get
  refine ⟨a, b, o, cap, hv, hc, hm, fun i hi => ?_⟩
  obtain ⟨ha, cs, hr, _, hx⟩ := hat i hi
  obtain rfl := rng_cells hr
  exact ⟨ha, hx 0 _ rfl, hx 1 _ rfl⟩
theorem u8_le {a b : UInt8} : ((a.toNat : Int) ≤ (b.toNat : Int)) = (a.toNat ≤ b.toNat) := by rw [eq_iff_iff]; omega
theorem inrng_c {r : UInt8 × UInt8} (h : Hs σ X (Cel p [.int .u8 c.toNat] :: R)) (hk : ∀ σ', Hs σ' X (Cel p [.int .u8 c.toNat] :: R) → k (.bool (inR c r)) σ') :
    kCall PG 114 [.agg [.int .u8 r.1.toNat, .int .u8 r.2.toNat].toArray, .pointer (some ⟨p, 0, none⟩)] σ k := by
  refine f114 ?_
  have h1 := h.new (cs := [.int .u8 r.1.toNat, .int .u8 r.2.toNat])
  by_cases h2 : r.1.toNat ≤ c.toNat
  · (try simp -dsimp (disch := first|exact P5|fail) only [↓P1,P2,↓P3,Q1,Q2,Q3,Q4,Q5,Q6,Q7,Q8,Q9, F114, h1.obj, h1.obj1, u8_le, h2])
    have := hk _ h1.drop
    rw [show inR c r = decide (c.toNat ≤ r.2.toNat) from by simp [inR, h2]] at this
    exact this
  · (try simp -dsimp (disch := first|exact P5|fail) only [↓P1,P2,↓P3,Q1,Q2,Q3,Q4,Q5,Q6,Q7,Q8,Q9, F114, h1.obj, h1.obj1, u8_le, h2])
    have := hk _ h1.drop
    rw [show inR c r = false from by simp [inR, h2]] at this
    exact this
end
end Go.Proofs.YtdlimikcgdgfpaaGreatDoor.G02
namespace Go.Proofs.YtdlimikcgdgfpaaGreatDoor.G02
open Tryz renaming prog → PG
open E renaming preR → P1, postR → P2, w_join → P3, w_stop → P4, dsc → P5
open E Go.Lib
section
variable {σ σ' : AS} {X : Ce} {R : List Ck} {k : Value → AS → Prop} {s : Str} {q : List Bool} {i e p : Nat} {c : UInt8} {v vq : Value}
abbrev tokC (kd : Int) (b : Int) (nt : Bool) (u : Value) : List Value := [.int .i64 kd, .int .u8 b, .bool nt, u]
theorem byt_of (h : i < s.length) : s[i]?.getD 0 = byt s i := rfl
theorem rng_rp (a b : UInt8) : Rp.rp X (a, b) [.int .u8 a.toNat, .int .u8 b.toNat] := ⟨[_], [_], rfl, rfl, rfl⟩
theorem class_c (hq : RepL X vq q) (hs : s.length ≤ 1000000) (hi : i < s.length) (h : Hs σ X R)
    (hf : ¬ clsE s q i < s.length → ∀ σ', Hs σ' X R → k (.tuple #[.agg (tokC 0 0 false (.slice none 0 0)).toArray, .int .i64 0, .bool false]) σ')
    (hk : clsE s q i < s.length → ∀ X' u σ', Ce.le X X' → RepL X' u (rgs s q (clsE s q i) (first s q i)) → Hs σ' X' R → k (.tuple #[.agg (tokC 4 0 (isP s q (i + 1) 33) u).toArray, .int .i64 (clsE s q i + 1 : Nat), .bool true]) σ') :
    kCall PG 77 [.agg [.string (bs s), vq].toArray, .int .i64 i] σ k := by
  have hsm : s.length ≤ maxLen := by unfold maxLen; omega
  have z0 : ((0 : UInt8).toNat : Int) = 0 := rfl
  refine f77 ?_
  have h1 := (((h.new (cs := [.string (bs s), vq])).new (cs := tokC 0 0 false (.slice none 0 0))).new (cs := tokC 0 0 false (.slice none 0 0))).put (cs' := tokC 4 0 false (.slice none 0 0))
  (try simp -dsimp (disch := first|exact P5|fail) only [↓P1,P2,↓P4,Q1,Q2,Q3,Q4,Q5,Q6,Q7,Q8,Q9, F77, h.new.obj])
  simp only [new_n] at h1 ⊢
  generalize AS.put _ (σ.n + 1 + 1) _ = s1 at h1 ⊢
  generalize σ.n + 1 + 1 = pt at h1 ⊢
  generalize σ.n + 1 = pv at h1 ⊢
  generalize σ.n = pq at h1 ⊢
  refine join_by fun J hJ => ?_
  have tail : ∀ s2, Hs s2 X (Cel pt (tokC 4 0 (isP s q (i + 1) 33) (.slice none 0 0)) :: Cel pv (tokC 0 0 false (.slice none 0 0)) :: Cel pq [.string (bs s), vq] :: R) → J [.int .i64 (first s q i : Nat)] s2 := by
    intro s2 h2
    refine hJ _ _ ?_
    clear hJ J h1 s1
    have hf1 : first s q i ≤ i + 2 := by unfold first; split <;> omega
    (try simp -dsimp (disch := first|exact P5|fail) only [↓P1,P2,↓P4,Q1,Q2,Q3,Q4,Q5,Q6,Q7,Q8,Q9, h2.obj2])
    refine join_by fun J2 hJ2 => ?_
    -- where the end is known
    have tail2 : ∀ s3, Hs s3 X (Cel pt (tokC 4 0 (isP s q (i + 1) 33) (.slice none 0 0)) :: Cel pv (tokC 0 0 false (.slice none 0 0)) :: Cel pq [.string (bs s), vq] :: R) → J2 [.int .i64 (clsE s q i : Nat)] s3 := by
      intro s3 h3
      refine hJ2 _ _ ?_
      clear hJ2 J2
      by_cases hc : clsE s q i < s.length
      · (try simp -dsimp (disch := first|exact P5|fail) only [↓P1,P2,↓P4,Q1,Q2,Q3,Q4,Q5,Q6,Q7,Q8,Q9, h3.obj2])
        refine join_now ?_
        (try simp -dsimp (disch := first|exact P5|fail) only [↓P1,P2,↓P4,Q1,Q2,Q3,Q4,Q5,Q6,Q7,Q8,Q9, h3.obj2])
        refine join_by fun J3 hJ3 => ?_
        have tail3 : ∀ s4 (u : Value), Hs s4 X (E.Own u (rgs s q (clsE s q i) (first s q i)) :: Cel pt (tokC 4 0 (isP s q (i + 1) 33) u) :: Cel pv (tokC 0 0 false (.slice none 0 0)) :: Cel pq [.string (bs s), vq] :: R) → J3 [] s4 := by
          intro s4 u h4
          refine hJ3 _ _ ?_
          have h5 := h4.put2 (cs' := tokC 4 0 (isP s q (i + 1) 33) u)
          obtain ⟨x, c, hu, _⟩ := h4.own
          subst hu
          (simp -dsimp (disch := first|exact P5|fail) only [↓P1,P2,↓P3,Q1,Q2,Q3,Q4,Q5,Q6,Q7,Q8,Q9, h4.obj1, h4.obj2, h5.obj2])
          obtain ⟨X', hx, hr, h6⟩ := h5.keep
          exact hk hc X' _ _ hx hr h6.drop.drop.drop
        clear hJ3
        refine loop_inv (fun nn xs s4 => ∃ (j : Nat) (u : Value) (pre : List (UInt8 × UInt8)), xs = [.int .i64 j] ∧ first s q i ≤ j ∧ pre ++ rgs s q (clsE s q i) j = rgs s q (clsE s q i) (first s q i) ∧
          Hs s4 X (E.Own u pre :: Cel pt (tokC 4 0 (isP s q (i + 1) 33) u) :: Cel pv (tokC 0 0 false (.slice none 0 0)) :: Cel pq [.string (bs s), vq] :: R) ∧ nn = clsE s q i - j) _ ⟨_, _, [], rfl, Nat.le_refl _, rfl, h3.own0, rfl⟩ ?_
        rintro _ _ s4 again ⟨j, u, pre, rfl, hj, hpre, h4, rfl⟩ hag
        obtain ⟨x, cp, hu, hcp⟩ := h4.own
        have hlen : pre.length ≤ 1000000 := by
          have h1 := congrArg List.length hpre
          have h2 := rgs_len (s := s) (q := q) (e := clsE s q i) (i := first s q i)
          rw [List.length_append] at h1
          omega
        by_cases hlt : j < clsE s q i
        · have e0 : s[j]?.getD 0 = byt s j := rfl
          have e2 : s[j + 2]?.getD 0 = byt s (j + 2) := rfl
          rw [rgs_eq, if_pos hlt] at hpre
          (try simp -dsimp (disch := first|exact P5|fail) only [↓P1,P2,↓P4,Q1,Q2,Q3,Q4,Q5,Q6,Q7,Q8,Q9])
          refine join_now ?_
          (try simp -dsimp (disch := first|exact P5|fail) only [↓P1,P2,↓P4,Q1,Q2,Q3,Q4,Q5,Q6,Q7,Q8,Q9])
          refine join_by fun J7 hJ7 => ?_
          have one : ∀ s5, Hs s5 X (E.Own u pre :: Cel pt (tokC 4 0 (isP s q (i + 1) 33) u) :: Cel pv (tokC 0 0 false (.slice none 0 0)) :: Cel pq [.string (bs s), vq] :: R) → (¬ (j + 2 < clsE s q i ∧ isP s q (j + 1) 45 = true)) → J7 [.int .i64 j] s5 := by
            intro s5 h5 hn
            refine hJ7 _ _ ?_
            rw [if_neg hn] at hpre
            have hp5 : pt < s5.n := h5.drop.lt
            (simp -dsimp (disch := first|exact P5|fail) only [↓P1,P2,↓P3,Q1,Q2,Q3,Q4,Q5,Q6,Q7,Q8,Q9, h5.obj1, h5.obj3, e0])
            refine push_by h5 (e := 195) (bytes := 2) (by kernel_rfl) (by kernel_rfl) (rng_rp (byt s j) (byt s j)) (by omega) (by unfold maxLen; omega) fun u' s6 h6 => ?_
            have h7 := h6.put1 (cs' := tokC 4 0 (isP s q (i + 1) 33) u')
            obtain ⟨x', c', hu', _⟩ := h6.own
            subst hu'
            (simp -dsimp (disch := first|exact P5|fail) only [↓P1,P2,↓P3,Q1,Q2,Q3,Q4,Q5,Q6,Q7,Q8,Q9, h6.obj1])
            exact hag _ _ _ ⟨j + 1, _, pre ++ [(byt s j, byt s j)], by simp, by omega, by rw [← hpre]; simp, h7, rfl⟩ (by omega)
          clear hJ7
          by_cases h22 : j + 2 < clsE s q i
          · (simp -dsimp (disch := first|exact P5|fail) only [↓P1,P2,↓P3,Q1,Q2,Q3,Q4,Q5,Q6,Q7,Q8,Q9, h4.obj3])
            refine plain_c (i := j + 1) (c := 45) (by omega) rfl hq hsm h4 fun s5 h5 => ?_
            cases hp : isP s q (j + 1) 45 with
            | true =>
              rw [if_pos ⟨h22, hp⟩] at hpre
              have hp5 : pt < s5.n := h5.drop.lt
              (simp -dsimp (disch := first|exact P5|fail) only [↓P1,P2,↓P3,Q1,Q2,Q3,Q4,Q5,Q6,Q7,Q8,Q9, h5.obj1, h5.obj3, e0, e2])
              refine push_by h5 (e := 195) (bytes := 2) (by kernel_rfl) (by kernel_rfl) (rng_rp (byt s j) (byt s (j + 2))) (by omega) (by unfold maxLen; omega) fun u' s6 h6 => ?_
              have h7 := h6.put1 (cs' := tokC 4 0 (isP s q (i + 1) 33) u')
              obtain ⟨x', c', hu', _⟩ := h6.own
              subst hu'
              (simp -dsimp (disch := first|exact P5|fail) only [↓P1,P2,↓P3,Q1,Q2,Q3,Q4,Q5,Q6,Q7,Q8,Q9, h6.obj1])
              exact hag _ _ _ ⟨j + 3, _, pre ++ [(byt s j, byt s (j + 2))], by simp, by omega, by rw [← hpre]; simp, h7, rfl⟩ (by omega)
            | false =>
              (simp -dsimp (disch := first|exact P5|fail) only [↓P1,P2,↓P3,Q1,Q2,Q3,Q4,Q5,Q6,Q7,Q8,Q9])
              exact one s5 h5 (by rw [hp]; simp)
          · (simp -dsimp (disch := first|exact P5|fail) only [↓P1,P2,↓P3,Q1,Q2,Q3,Q4,Q5,Q6,Q7,Q8,Q9])
            exact one s4 h4 (fun h => h22 h.1)
        · have he : rgs s q (clsE s q i) j = [] := by rw [rgs_eq, if_neg hlt]
          rw [he, List.append_nil] at hpre
          subst hpre
          (simp -dsimp (disch := first|exact P5|fail) only [↓P1,P2,↓P3,Q1,Q2,Q3,Q4,Q5,Q6,Q7,Q8,Q9])
          exact tail3 s4 u h4
      · have h4 := h3.put1 (cs' := tokC 0 0 false (.slice none 0 0))
        (simp -dsimp (disch := first|exact P5|fail) only [↓P1,P2,↓P3,Q1,Q2,Q3,Q4,Q5,Q6,Q7,Q8,Q9, h3.obj1, h3.obj2, h4.obj1])
        exact hf hc _ h4.drop.drop.drop
    clear hJ2
    refine loop_inv (fun nn xs s3 => ∃ e : Nat, xs = [.int .i64 e] ∧ endAt s q e = clsE s q i ∧ e ≤ s.length + 2 ∧ Hs s3 X (Cel pt (tokC 4 0 (isP s q (i + 1) 33) (.slice none 0 0)) :: Cel pv (tokC 0 0 false (.slice none 0 0)) :: Cel pq [.string (bs s), vq] :: R) ∧ nn = s.length + 2 - e) _ ⟨first s q i + 1, by simp, rfl, by omega, h2, rfl⟩ ?_
    rintro _ _ s3 again ⟨e, rfl, he, hel, h3, rfl⟩ hag
    rw [endAt_eq] at he
    by_cases hlt : e < s.length
    · (simp -dsimp (disch := first|exact P5|fail) only [↓P1,P2,↓P3,Q1,Q2,Q3,Q4,Q5,Q6,Q7,Q8,Q9, h3.obj2])
      refine plain_c (i := e) (c := 93) rfl rfl hq hsm h3 fun s4 h4 => ?_
      cases hp : isP s q e 93 with
      | true =>
        rw [if_neg (by simp [hp])] at he
        (simp -dsimp (disch := first|exact P5|fail) only [↓P1,P2,↓P3,Q1,Q2,Q3,Q4,Q5,Q6,Q7,Q8,Q9])
        rw [he]
        exact tail2 s4 h4
      | false =>
        rw [if_pos ⟨hlt, hp⟩] at he
        (simp -dsimp (disch := first|exact P5|fail) only [↓P1,P2,↓P3,Q1,Q2,Q3,Q4,Q5,Q6,Q7,Q8,Q9])
        exact hag _ _ _ ⟨e + 1, by simp, he, by omega, h4, rfl⟩ (by omega)
    · rw [if_neg (by omega)] at he
      (simp -dsimp (disch := first|exact P5|fail) only [↓P1,P2,↓P3,Q1,Q2,Q3,Q4,Q5,Q6,Q7,Q8,Q9, h3.obj2])
      rw [he]
      exact tail2 s3 h3
  clear hJ
  (simp -dsimp (disch := first|exact P5|fail) only [↓P1,P2,↓P3,Q1,Q2,Q3,Q4,Q5,Q6,Q7,Q8,Q9, h1.obj2])
  refine plain_c (i := i + 1) (c := 33) (by omega) rfl hq hsm h1 fun s2 h2 => ?_
  unfold first at tail
  cases hp : isP s q (i + 1) 33 with
  | true =>
    have h3 := h2.put (cs' := tokC 4 0 true (.slice none 0 0))
    rw [hp] at tail
    (simp -dsimp (disch := first|exact P5|fail) only [↓P1,P2,↓P3,Q1,Q2,Q3,Q4,Q5,Q6,Q7,Q8,Q9, h2.obj])
    have := tail _ h3
    simp only [if_true] at this
    rw [show ((i : Int) + 1 + 1) = ((i + 2 : Nat) : Int) from by omega]
    exact this
  | false =>
    rw [hp] at tail
    (simp -dsimp (disch := first|exact P5|fail) only [↓P1,P2,↓P3,Q1,Q2,Q3,Q4,Q5,Q6,Q7,Q8,Q9])
    have := tail _ h2
    simp only [Bool.false_eq_true, if_false] at this
    exact this
end
end Go.Proofs.YtdlimikcgdgfpaaGreatDoor.G02
namespace Go.Proofs.YtdlimikcgdgfpaaGreatDoor.G02
open Tryz renaming prog → PG
open E renaming preR → P1, postR → P2, w_join → P3, w_stop → P4, dsc → P5
open E Go.Lib
section
variable {σ σ' : AS} {X : Ce} {R : List Ck} {k : Value → AS → Prop} {s : Str} {q : List Bool} {i e p l : Nat} {c : UInt8} {v vq : Value}
abbrev pt (p : Nat) : Value := .pointer (some ⟨p, 0, none⟩)
theorem iter_c {Y : List Tok → Ck} (hq : RepL X vq q) (hp0 : X p 0 = some (.string (bs s))) (hp1 : X p 1 = some vq) (hs : s.length ≤ 1000000) (h : Hs σ X (Y [] :: R))
    (hy : ∀ σ1 X1 R1 pre kd b nt rs u k1, Ce.le X X1 → Hs σ1 X1 (Y pre :: R1) → inI64 kd → RepL X1 u rs → pre.length < s.length →
      (∀ σ2 X2, Ce.le X1 X2 → Hs σ2 X2 (Y (pre ++ [(kd, b, nt, rs)]) :: R1) → k1 (.bool true) σ2) → kYld PG l [.agg (tokC kd b.toNat nt u).toArray] σ1 k1)
    (hk : ∀ σ' X', Ce.le X X' → Hs σ' X' (Y (toks s q) :: R) → k undef σ') :
    kCall PG 75 [.func (.yield l) #[] #[], pt p] σ k := by
  have hsm : s.length ≤ maxLen := by unfold maxLen; omega
  refine f75 ?_
  (try simp -dsimp (disch := first|exact P5|fail) only [↓P1,P2,↓P4,Q1,Q2,Q3,Q4,Q5,Q6,Q7,Q8,Q9, F75])
  refine loop_inv (fun nn xs s1 => ∃ (j : Nat) (pre : List Tok) (X1 : Ce), xs = [.int .i64 j] ∧ Ce.le X X1 ∧ pre ++ toksA s q j = toks s q ∧ j ≤ s.length ∧ Hs s1 X1 (Y pre :: R) ∧ nn = s.length - j) _ ⟨0, [], X, rfl, Ce.le_refl _, rfl, Nat.zero_le _, h, rfl⟩ ?_
  clear h
  rintro _ _ s1 again ⟨j, pre, X1, rfl, hx, hpre, hj, h1, rfl⟩ hag
  have g0 := h1.ldx (hx _ _ _ hp0)
  have g1 := h1.ldx (hx _ _ _ hp1)
  by_cases hlt : j < s.length
  · rw [toksA_eq, if_pos hlt] at hpre
    have hpl : pre.length < s.length := by
      have a1 := congrArg List.length hpre
      have a2 := toksA_len (s := s) (q := q) (i := 0)
      have a3 : (toks s q).length ≤ s.length := by unfold toks; omega
      simp only [List.length_append, List.length_cons] at a1
      omega
    (try simp -dsimp (disch := first|exact P5|fail) only [↓P1,P2,↓P4,Q1,Q2,Q3,Q4,Q5,Q6,Q7,Q8,Q9, g0])
    refine join_now ?_
    have h2 := (h1.new (cs := tokC 0 0 false (.slice none 0 0))).put (cs' := tokC 1 (byt s j).toNat false (.slice none 0 0))
    (try simp -dsimp (disch := first|exact P5|fail) only [↓P1,P2,↓P4,Q1,Q2,Q3,Q4,Q5,Q6,Q7,Q8,Q9, g0, byt_of hlt])
    generalize s1.n = pt at h2 ⊢
    generalize AS.put _ pt _ = s2 at h2 ⊢
    have hq1 : RepL X1 vq q := hq.mono hx
    clear g0 g1
    refine join_by fun J hJ => ?_
    have tail : ∀ s3 X3 kd (b : UInt8) nt rs u, Ce.le X1 X3 → Hs s3 X3 (Cel pt (tokC kd b.toNat nt u) :: Y pre :: R) → inI64 kd → RepL X3 u rs → (kd, b, nt, rs) = (tokAt s q j).1 → J [.int .i64 ((tokAt s q j).2 : Nat)] s3 := by
      intro s3 X3 kd b nt rs u hx3 h3 hkd hu ht
      refine hJ _ _ ?_
      (simp -dsimp (disch := first|exact P5|fail) only [↓P1,P2,↓P3,Q1,Q2,Q3,Q4,Q5,Q6,Q7,Q8,Q9, h3.obj])
      refine yld_by (hy _ _ _ _ _ _ _ _ _ _ (Ce.le_trans hx hx3) h3.swap hkd hu hpl fun s4 X4 hx4 h4 => ?_)
      (simp -dsimp (disch := first|exact P5|fail) only [↓P1,P2,↓P3,Q1,Q2,Q3,Q4,Q5,Q6,Q7,Q8,Q9])
      have hgt := tokAt_gt (s := s) (q := q) (i := j)
      refine hag _ _ _ ⟨(tokAt s q j).2, pre ++ [(kd, b, nt, rs)], X4, rfl, Ce.le_trans hx (Ce.le_trans hx3 hx4), by rw [← hpre, ht]; simp, tokAt_le hlt, h4.swap.drop, rfl⟩ (by omega)
    clear hJ
    have h2' := h2
    have g0 := h2.ldx (hx _ _ _ hp0)
    have g1 := h2.ldx (hx _ _ _ hp1)
    (simp -dsimp (disch := first|exact P5|fail) only [↓P1,P2,↓P3,Q1,Q2,Q3,Q4,Q5,Q6,Q7,Q8,Q9, g0, g1])
    refine plain_c (i := j) (c := 63) rfl rfl hq1 hsm h2 fun s3 h3 => ?_
    cases hp1' : isP s q j 63 with
    | true =>
      have e : tokAt s q j = ((2, 0, false, []), j + 1) := by unfold tokAt; rw [if_pos hp1']
      have h4 := h3.put (cs' := tokC 2 0 false (.slice none 0 0))
      rw [e] at tail
      (simp -dsimp (disch := first|exact P5|fail) only [↓P1,P2,↓P3,Q1,Q2,Q3,Q4,Q5,Q6,Q7,Q8,Q9, h3.obj])
      exact tail _ _ 2 0 false [] _ (Ce.le_refl _) h4 (by unfold inI64; omega) ⟨none, 0, rfl, Nat.le_refl _, Nat.zero_le _, .inl rfl⟩ rfl
    | false =>
      have g0 := h3.ldx (hx _ _ _ hp0)
      have g1 := h3.ldx (hx _ _ _ hp1)
      (simp -dsimp (disch := first|exact P5|fail) only [↓P1,P2,↓P3,Q1,Q2,Q3,Q4,Q5,Q6,Q7,Q8,Q9, g0, g1])
      refine plain_c (i := j) (c := 42) rfl rfl hq1 hsm h3 fun s4 h4 => ?_
      cases hp2 : isP s q j 42 with
      | true =>
        have e : tokAt s q j = ((3, 0, false, []), j + 1) := by unfold tokAt; rw [hp1', if_neg (by simp), if_pos hp2]
        have h5 := h4.put (cs' := tokC 3 0 false (.slice none 0 0))
        rw [e] at tail
        (simp -dsimp (disch := first|exact P5|fail) only [↓P1,P2,↓P3,Q1,Q2,Q3,Q4,Q5,Q6,Q7,Q8,Q9, h4.obj])
        exact tail _ _ 3 0 false [] _ (Ce.le_refl _) h5 (by unfold inI64; omega) ⟨none, 0, rfl, Nat.le_refl _, Nat.zero_le _, .inl rfl⟩ rfl
      | false =>
        have g0 := h4.ldx (hx _ _ _ hp0)
        have g1 := h4.ldx (hx _ _ _ hp1)
        (simp -dsimp (disch := first|exact P5|fail) only [↓P1,P2,↓P3,Q1,Q2,Q3,Q4,Q5,Q6,Q7,Q8,Q9, g0, g1])
        refine plain_c (i := j) (c := 91) rfl rfl hq1 hsm h4 fun s5 h5 => ?_
        have byte : ¬ (isP s q j 91 = true ∧ clsE s q j < s.length) → ∀ s6, Hs s6 X1 (Cel pt (tokC 1 (byt s j).toNat false (.slice none 0 0)) :: Y pre :: R) → J [.int .i64 (j + 1 : Nat)] s6 := by
          intro hn s6 h6
          have e : tokAt s q j = ((1, byt s j, false, []), j + 1) := by unfold tokAt; rw [hp1', hp2, if_neg (by simp), if_neg (by simp), if_neg hn]
          rw [e] at tail
          exact tail _ _ 1 (byt s j) false [] _ (Ce.le_refl _) h6 (by unfold inI64; omega) ⟨none, 0, rfl, Nat.le_refl _, Nat.zero_le _, .inl rfl⟩ rfl
        cases hp3 : isP s q j 91 with
        | true =>
          have g0 := h5.ldx (hx _ _ _ hp0)
          have g1 := h5.ldx (hx _ _ _ hp1)
          (simp -dsimp (disch := first|exact P5|fail) only [↓P1,P2,↓P3,Q1,Q2,Q3,Q4,Q5,Q6,Q7,Q8,Q9, g0, g1])
          refine class_c hq1 hs hlt h5 (fun hc s6 h6 => ?_) (fun hc X6 u s6 hx6 hu h6 => ?_)
          · have h7 := (h6.new (cs := tokC 0 0 false (.slice none 0 0))).put (cs' := tokC 0 0 false (.slice none 0 0))
            (simp -dsimp (disch := first|exact P5|fail) only [↓P1,P2,↓P3,Q1,Q2,Q3,Q4,Q5,Q6,Q7,Q8,Q9])
            exact byte (fun h => hc h.2) _ h7.drop
          · obtain ⟨a, cap, hu', _⟩ := hu.val
            have h7 := (h6.new (cs := tokC 0 0 false (.slice none 0 0))).put (cs' := tokC 4 0 (isP s q (j + 1) 33) u)
            have h8 := h7.put1 (cs' := tokC 4 0 (isP s q (j + 1) 33) u)
            have e : tokAt s q j = ((4, 0, isP s q (j + 1) 33, rgs s q (clsE s q j) (first s q j)), clsE s q j + 1) := by unfold tokAt; rw [hp1', hp2, if_neg (by simp), if_neg (by simp), if_pos ⟨hp3, hc⟩]
            rw [e] at tail
            subst hu'
            have hpt : pt < s6.n := h6.lt
            (simp -dsimp (disch := first|exact P5|fail) only [↓P1,P2,↓P3,Q1,Q2,Q3,Q4,Q5,Q6,Q7,Q8,Q9, h6.obj, h7.obj])
            exact tail _ _ 4 0 _ _ _ hx6 h8.drop (by unfold inI64; omega) hu rfl
        | false =>
          (simp -dsimp (disch := first|exact P5|fail) only [↓P1,P2,↓P3,Q1,Q2,Q3,Q4,Q5,Q6,Q7,Q8,Q9])
          exact byte (by rw [hp3]; simp) s5 h5
  · rw [toksA_eq, if_neg hlt, List.append_nil] at hpre
    subst hpre
    (simp -dsimp (disch := first|exact P5|fail) only [↓P1,P2,↓P3,Q1,Q2,Q3,Q4,Q5,Q6,Q7,Q8,Q9, g0])
    exact hk _ _ hx h1
theorem tokens_c (h : Hs σ X R) (hv : okCell vq = true) (hk : ∀ X' p σ', Ce.le X X' → X' p 0 = some (.string (bs s)) → X' p 1 = some vq → Hs σ' X' R → k (.func (.func 75) #[] #[pt p]) σ') :
    kCall PG 44 [.agg [.string (bs s), vq].toArray] σ k := by
  refine f44 ?_
  have h1 := h.new (cs := [.string (bs s), vq])
  (try simp -dsimp (disch := first|exact P5|fail) only [↓P1,P2,↓P3,Q1,Q2,Q3,Q4,Q5,Q6,Q7,Q8,Q9, F44])
  obtain ⟨X', hx, hc, h2⟩ := h1.freeze
  exact hk X' _ _ hx (hc 0 _ rfl) (hc 1 _ rfl) h2
def PY (o : Go.Obj) (D po : Nat) (pre : List Tok) : Ck := Exs (fun v : Value => True) fun v => [Oth (D + 1) o, Oth D (.deferred (some [])), Cel po [v], E.Own v pre]
theorem parse_c (hq : RepL X vq q) (hs : s.length ≤ 1000000) (h : Hs σ X R) (hk : ∀ X' v σ', Ce.le X X' → RepL X' v (toks s q) → Hs σ' X' R → k v σ') :
    kCall PG 16 [.string (bs s), vq] σ k := by
  obtain ⟨a, cap, hvq, _⟩ := hq.val
  refine f16 ?_
  subst hvq
  have h1 := h.new (cs := [.slice none 0 0])
  (try simp -dsimp (disch := first|exact P5|fail) only [↓P1,P2,↓P4,Q1,Q2,Q3,Q4,Q5,Q6,Q7,Q8,Q9, F16])
  generalize σ.n = po at h1 ⊢
  generalize AS.new σ _ = s1 at h1 ⊢
  refine join_by fun J hJ => ?_
  have tail : ∀ s2 X2 D v, Ce.le X X2 → Hs s2 X2 (Oth D (.deferred (some [])) :: Cel po [v] :: E.Own v (toks s q) :: R) → J [consM (.int .i64 (D : Nat)) undef] s2 := by
    intro s2 X2 D v hx2 h2
    refine hJ _ _ ?_
    (simp -dsimp (disch := first|exact P5|fail) only [↓P1,P2,↓P3,Q1,Q2,Q3,Q4,Q5,Q6,Q7,Q8,Q9, h2.obj1])
    refine fin1 h2.oth ?_
    have h3 := (h2.putX (o' := .deferred none)).drop.drop
    obtain ⟨X', hx, hr, h4⟩ := h3.keep
    exact hk _ _ _ (Ce.le_trans hx2 hx) hr h4
  clear hJ
  (simp -dsimp (disch := first|exact P5|fail) only [↓P1,P2,↓P3,Q1,Q2,Q3,Q4,Q5,Q6,Q7,Q8,Q9])
  refine tokens_c h1 rfl fun X2 p s2 hx2 hp0 hp1 h2 => ?_
  refine rngf_by (a := []) (b := [pt p]) (by kernel_rfl) fun o o' hY => ?_
  have h3 := ((h2.own0 (α := Tok)).swap.newX (o := .deferred (some []))).newX (o := o)
  have hn : (s2.new (.other (.deferred (some [])))).n = s2.n + 1 := rfl
  rw [hn] at h3
  have h4 : Hs _ X2 (PY o s2.n po [] :: R) := Hs.closed (p := fun v : Value => True) (.slice none 0 0) trivial h3
  refine iter_c (Y := PY o s2.n po) (hq.mono hx2) hp0 hp1 hs h4 ?_ ?_
  · intro σ1 X1 R1 pre kd b nt rs u k1 hx1 g1 hkd hu hpl hk1
    obtain ⟨v, _, g2⟩ := g1.opened
    obtain ⟨ua, uc, hu', _⟩ := hu.val
    subst hu'
    refine hY _ _ _ g2.oth ⟨rfl, ?_⟩
    have g3 := (g2.new (cs := tokC 0 0 false (.slice none 0 0))).put (cs' := tokC kd b.toNat nt (.slice ua rs.length uc))
    (simp -dsimp (disch := first|exact P5|fail) only [↓P1,P2,↓P3,Q1,Q2,Q3,Q4,Q5,Q6,Q7,Q8,Q9])
    generalize σ1.n = pw at g3 ⊢
    generalize AS.put _ pw _ = s4 at g3 ⊢
    refine ⟨g3.drop.oth, ?_⟩
    have g4 : Hs _ X1 (E.Own v pre :: Oth (s2.n + 1) o' :: Cel pw (tokC kd b.toNat nt (.slice ua rs.length uc)) :: Oth s2.n (.deferred (some [])) :: Cel po [v] :: R1) := (g3.front 1 rfl).putX (o' := o') |>.front 4 rfl
    obtain ⟨vx, vc, hv, _⟩ := g4.own
    have e1 := (g4.front 4 rfl).obj
    have e2 := (g4.front 2 rfl).obj
    (simp -dsimp (disch := first|exact P5|fail) only [↓P1,P2,↓P3,Q1,Q2,Q3,Q4,Q5,Q6,Q7,Q8,Q9, e1, e2])
    refine push_by g4 (e := 106) (bytes := 40) (by kernel_rfl) (by kernel_rfl) (tok_rp (t := (kd, b, nt, rs)) hkd hu) (by omega) (by unfold maxLen; omega) fun v' s5 g5 => ?_
    obtain ⟨vx', vc', hv', _⟩ := g5.own
    subst hv'
    have e3 := (g5.front 4 rfl).obj
    (simp -dsimp (disch := first|exact P5|fail) only [↓P1,P2,↓P3,Q1,Q2,Q3,Q4,Q5,Q6,Q7,Q8,Q9, e3])
    have g6 : Hs _ X1 (Cel po [.slice vx' (pre ++ [(kd, b, nt, rs)]).length vc'] :: E.Own (.slice vx' (pre ++ [(kd, b, nt, rs)]).length vc') (pre ++ [(kd, b, nt, rs)]) :: Oth (s2.n + 1) o' :: Cel pw (tokC kd b.toNat nt (.slice ua rs.length uc)) :: Oth s2.n (.deferred (some [])) :: R1) := (g5.front 4 rfl).put
    have g7 : Hs _ X1 (Oth (s2.n + 1) o' :: Cel po [.slice vx' (pre ++ [(kd, b, nt, rs)]).length vc'] :: E.Own (.slice vx' (pre ++ [(kd, b, nt, rs)]).length vc') (pre ++ [(kd, b, nt, rs)]) :: Cel pw (tokC kd b.toNat nt (.slice ua rs.length uc)) :: Oth s2.n (.deferred (some [])) :: R1) := g6.front 2 rfl
    refine ⟨g7.oth, hk1 _ X1 (Ce.le_refl _) ?_⟩
    have g8 : Hs _ X1 (Oth (s2.n + 1) o :: Cel po [_] :: E.Own _ (pre ++ [(kd, b, nt, rs)]) :: Oth s2.n (.deferred (some [])) :: R1) := ((g7.putX (o' := o)).front 3 rfl).drop
    have g9 : Hs _ X1 (Oth (s2.n + 1) o :: Oth s2.n (.deferred (some [])) :: Cel po [_] :: E.Own _ (pre ++ [(kd, b, nt, rs)]) :: R1) := (g8.front 3 rfl).front 1 rfl
    exact Hs.closed (p := fun v : Value => True) _ trivial g9
  · intro σ1 X1 hx1 g1
    obtain ⟨v, _, g2⟩ := g1.opened
    refine ⟨g2.oth, fun o2 => ?_⟩
    exact tail _ _ _ v (Ce.le_trans hx2 hx1) g2.putX.drop
end
end Go.Proofs.YtdlimikcgdgfpaaGreatDoor.G02
namespace Go.Proofs.YtdlimikcgdgfpaaGreatDoor.G02
open Tryz renaming prog → PG
open E renaming preR → P1, postR → P2, w_join → P3, w_stop → P4, dsc → P5
open E Go.Lib
section
variable {σ σ' : AS} {X : Ce} {R : List Ck} {k : Value → AS → Prop} {l a b : List Tok} {u v va vb : Value} {c b1 : UInt8} {kd : Int} {nt : Bool} {p : Nat} {rs : List (UInt8 × UInt8)}
theorem idxR_c (hu : RepL X u rs) (h : Hs σ X (Cel p [.int .u8 c.toNat] :: R)) (hk : ∀ σ' n, Hs σ' X (Cel p [.int .u8 c.toNat] :: R) → (0 ≤ n ↔ rs.any (inR c) = true) → k (.int .i64 n) σ') :
    kCall PG 145 [u, .func (.func 114) #[] #[pt p]] σ k := by
  obtain ⟨ra, rb, ro, rcap, rfl, rhc, rhm, rat⟩ := rng_at hu
  unfold maxLen at rhm
  refine f145 ?_
  (try simp -dsimp (disch := first|exact P5|fail) only [↓P1,P2,↓P4,Q1,Q2,Q3,Q4,Q5,Q6,Q7,Q8,Q9, F145])
  refine join_now ?_
  (try simp -dsimp (disch := first|exact P5|fail) only [↓P1,P2,↓P4,Q1,Q2,Q3,Q4,Q5,Q6,Q7,Q8,Q9])
  refine loop_inv (fun nn xs s1 => ∃ j : Nat, xs = [.int .i64 j] ∧ Hs s1 X (Cel p [.int .u8 c.toNat] :: R) ∧ j ≤ rs.length ∧ (∀ r, r ∈ rs.take j → inR c r = false) ∧ nn = rs.length - j) _ ⟨0, rfl, h, Nat.zero_le _, by simp, rfl⟩ ?_
  clear h
  rintro _ _ s1 again ⟨j, rfl, h, hj, hpre, rfl⟩ hag
  by_cases hlt : j < rs.length
  · obtain ⟨rfl, r0, r1⟩ := rat j hlt
    have g0 := h.ldx r0
    have g1 := h.ldx r1
    (simp -dsimp (disch := first|exact P5|fail) only [↓P1,P2,↓P3,Q1,Q2,Q3,Q4,Q5,Q6,Q7,Q8,Q9, g0, g1])
    refine callv_by (a := []) (b := [pt p]) (by kernel_rfl) ?_
    refine inrng_c (r := rs[j]) h fun s2 h2 => ?_
    cases hr : inR c rs[j] with
    | true =>
      (simp -dsimp (disch := first|exact P5|fail) only [↓P1,P2,↓P3,Q1,Q2,Q3,Q4,Q5,Q6,Q7,Q8,Q9])
      exact hk _ _ h2 ⟨fun _ => List.any_eq_true.2 ⟨rs[j], List.getElem_mem hlt, hr⟩, fun _ => by omega⟩
    | false =>
      (simp -dsimp (disch := first|exact P5|fail) only [↓P1,P2,↓P3,Q1,Q2,Q3,Q4,Q5,Q6,Q7,Q8,Q9])
      refine hag _ _ _ ⟨j + 1, by simp, h2, hlt, ?_, rfl⟩ (by omega)
      rw [List.take_succ_eq_append_getElem hlt]
      intro t ht
      rcases List.mem_append.1 ht with ht | ht
      · exact hpre t ht
      · simp at ht; subst ht; exact hr
  · rw [List.take_of_length_le (by omega)] at hpre
    (simp -dsimp (disch := first|exact P5|fail) only [↓P1,P2,↓P3,Q1,Q2,Q3,Q4,Q5,Q6,Q7,Q8,Q9])
    refine hk _ _ h ⟨fun h => by omega, fun h => ?_⟩
    obtain ⟨r, h1, h2⟩ := List.any_eq_true.1 h
    rw [hpre r h1] at h2
    cases h2
theorem has_c {m : Int} (hm : m = (c.toNat : Nat)) (hu : RepL X u rs) (h : Hs σ X R) (hk : ∀ σ', Hs σ' X R → k (.bool (fit1 (kd, b1, nt, rs) c)) σ') :
    kCall PG 78 [.agg (tokC kd b1.toNat nt u).toArray, .int .u8 m] σ k := by
  subst hm
  refine f78 ?_
  have h1 := (h.new (cs := tokC kd b1.toNat nt u)).new (cs := [.int .u8 c.toNat])
  by_cases n1 : kd = 1
  · (simp -dsimp (disch := first|exact P5|fail) only [↓P1,P2,↓P3,Q1,Q2,Q3,Q4,Q5,Q6,Q7,Q8,Q9, F78, n1, u8_eq])
    have := hk _ h1.drop.drop
    rw [show fit1 (kd, b1, nt, rs) c = decide (b1 = c) from by simp [fit1, n1]] at this
    subst n1
    exact this
  · by_cases n2 : kd = 2
    · (simp -dsimp (disch := first|exact P5|fail) only [↓P1,P2,↓P3,Q1,Q2,Q3,Q4,Q5,Q6,Q7,Q8,Q9, F78, n2, u8_eq])
      have := hk _ h1.drop.drop
      rw [show fit1 (kd, b1, nt, rs) c = true from by simp [fit1, n2]] at this
      subst n2
      exact this
    · by_cases n4 : kd = 4
      · subst n4
        (simp -dsimp (disch := first|exact P5|fail) only [↓P1,P2,↓P3,Q1,Q2,Q3,Q4,Q5,Q6,Q7,Q8,Q9, F78])
        have e : (σ.new (Ob.cells (tokC 4 (b1.toNat) nt u))).n = σ.n + 1 := rfl
        rw [e] at h1
        generalize σ.n + 1 = pc at h1 ⊢
        have hlt : σ.n < (AS.new (σ.new (Ob.cells (tokC 4 (b1.toNat) nt u))) (Ob.cells [.int .u8 c.toNat])).n := h1.drop.lt
        generalize AS.new (σ.new _) _ = s1 at h1 hlt ⊢
        generalize σ.n = pw at h1 hlt ⊢
        refine f113 ?_
        (simp -dsimp (disch := first|exact P5|fail) only [↓P1,P2,↓P3,Q1,Q2,Q3,Q4,Q5,Q6,Q7,Q8,Q9, F113])
        refine idxR_c hu h1 fun s2 n h2 hn => ?_
        have e4 : fit1 (4, b1, nt, rs) c = (rs.any (inR c) != nt) := by simp [fit1]
        rw [e4] at hk
        cases ha : rs.any (inR c) with
        | true =>
          rw [ha] at hk
          have := hn.2 ha
          (simp -dsimp (disch := first|exact P5|fail) only [↓P1,P2,↓P3,Q1,Q2,Q3,Q4,Q5,Q6,Q7,Q8,Q9, h2.obj1])
          have h9 := hk _ h2.drop.drop
          rw [show (true != nt) = !nt from by cases nt <;> rfl] at h9
          exact h9
        | false =>
          rw [ha] at hk
          have : ¬ 0 ≤ n := fun h => by rw [hn.1 h] at ha; cases ha
          (simp -dsimp (disch := first|exact P5|fail) only [↓P1,P2,↓P3,Q1,Q2,Q3,Q4,Q5,Q6,Q7,Q8,Q9, h2.obj1])
          have h9 := hk _ h2.drop.drop
          rw [show (false != nt) = !!nt from by cases nt <;> rfl] at h9
          exact h9
      · (simp -dsimp (disch := first|exact P5|fail) only [↓P1,P2,↓P3,Q1,Q2,Q3,Q4,Q5,Q6,Q7,Q8,Q9, F78, n1, n2, n4])
        have := hk _ h1.drop.drop
        rw [show fit1 (kd, b1, nt, rs) c = false from by simp [fit1, n1, n2, n4]] at this
        exact this
end
end Go.Proofs.YtdlimikcgdgfpaaGreatDoor.G02
namespace Go.Proofs.YtdlimikcgdgfpaaGreatDoor.G02
open Tryz renaming prog → PG
open E renaming preR → P1, postR → P2, w_join → P3, w_stop → P4, dsc → P5
open E Go.Lib
def rowV (l : List Bool) : List Value := l.map Value.bool
theorem rowV_len (l : List Bool) : (rowV l).length = l.length := by simp [rowV]
theorem rowV_get {l : List Bool} {i : Nat} (h : i < l.length) : (rowV l)[i]? = some (.bool (l[i]?.getD false)) := by simp [rowV, h]
theorem rowV_set (l : List Bool) (i : Nat) (b : Bool) : (rowV l).set i (.bool b) = rowV (l.set i b) := by simp [rowV]
theorem rep1 (n : Nat) : (List.replicate n [Value.bool false]).flatten = rowV (List.replicate n false) := by
  induction n with
  | zero => rfl
  | succ n ih => rw [List.replicate_succ, List.flatten_cons, ih]; rfl
theorem row0_set (n : Nat) : (rowV (List.replicate (n + 1) false)).set 0 (.bool true) = rowV (row0 n) := by
  rw [rowV_set]; rfl
theorem rowV_ok (l : List Bool) : (rowV l).all okCell = true := by
  rw [rowV, List.all_map, List.all_eq_true]; intro b _; rfl
theorem scan_succ : ∀ (row : List Bool) (a : Bool) (i : Nat), i + 1 < row.length → (scanOr a row)[i + 1]?.getD false = ((scanOr a row)[i]?.getD false || row[i + 1]?.getD false)
  | [], _, i, h => by simp at h
  | b :: [], a, i, h => by simp at h
  | b :: c :: r, a, 0, h => rfl
  | b :: c :: r, a, i + 1, h => by
    have := scan_succ (c :: r) (a || b) i (by simpa using h)
    simp only [scanOr, List.getElem?_cons_succ] at this ⊢
    exact this
theorem scan_zero {row : List Bool} (h : 0 < row.length) : (scanOr false row)[0]?.getD false = row[0]?.getD false := by
  cases row with
  | nil => simp at h
  | cons b r => simp [scanOr]
def mix (nw od : List Bool) (i : Nat) : List Bool := nw.take i ++ od.drop i
section
variable {nw od : List Bool} {i j : Nat}
theorem mix_len (h : nw.length = od.length) (hi : i ≤ od.length) : (mix nw od i).length = od.length := by simp [mix]; omega
theorem mix_old (h : nw.length = od.length) (hi : i ≤ j) (hj : i ≤ od.length) : (mix nw od i)[j]?.getD false = od[j]?.getD false := by
  unfold mix
  rw [List.getElem?_append_right (by simp; omega), List.getElem?_drop]
  congr 2
  simp; omega
theorem mix_new (h : nw.length = od.length) (hi : j < i) (hj : i ≤ od.length) : (mix nw od i)[j]?.getD false = nw[j]?.getD false := by
  unfold mix
  rw [List.getElem?_append_left (by simp; omega), List.getElem?_take, if_pos hi]
theorem mix_set (h : nw.length = od.length) (hi : i < od.length) : (mix nw od i).set i (nw[i]?.getD false) = mix nw od (i + 1) := by
  unfold mix
  have hl : (nw.take i).length = i := by simp; omega
  rw [List.set_append_right _ _ (by omega), hl, Nat.sub_self, List.drop_eq_getElem_cons hi, List.set_cons_zero, List.take_succ_eq_append_getElem (by omega : i < nw.length), List.getElem?_eq_getElem (by omega : i < nw.length), List.append_assoc]
  rfl
theorem mix_all (h : nw.length = od.length) : mix nw od od.length = nw := by
  unfold mix
  rw [List.drop_eq_nil_of_le (Nat.le_refl _), List.append_nil, List.take_of_length_le (by omega)]
theorem mix_zero : mix nw od 0 = od := by simp [mix]
theorem mix_one (h : nw.length = od.length) (h0 : 0 < od.length) (he : nw[0]?.getD false = od[0]?.getD false) : mix nw od 1 = od := by
  rw [← mix_set h h0, he, mix_zero]
  apply List.ext_getElem?
  intro k
  rw [List.getElem?_set]
  split
  · rename_i e; subst e
    rw [List.getElem?_eq_getElem h0]
    simp [h0]
  · rfl
end
section
variable {σ σ' : AS} {X : Ce} {R : List Ck} {k : Value → AS → Prop} {l a b : List Tok} {u v va vb : Value} {c b1 : UInt8} {kd : Int} {nt : Bool} {p : Nat} {rs : List (UInt8 × UInt8)} {s : Str}
abbrev rowS (p n : Nat) : Value := .slice (some ⟨p, 0, none⟩) n n
theorem mks_row {n : Nat} (hn : n ≤ 1000000) (s : AS) (K : Value → AS → Prop) : kMks s 1 1 [.bool false] (.int .i64 ((n : Int) + 1)) (.int .i64 ((n : Int) + 1)) K = K (rowS s.n (n + 1)) (s.new (.cells (rowV (List.replicate (n + 1) false)))) := by
  have e : ((n : Int) + 1).toNat = n + 1 := by omega
  rw [w_mks 1 1 _ _ _ _ _ (by omega) (by omega) (by omega) (by omega) rfl (by omega), e, rep1]
theorem reach_c (hl : RepL X v l) (hs : s.length ≤ 1000000) (h : Hs σ X R) (hk : ∀ p σ', Hs σ' X (Cel p (rowV (reachL l s)) :: R) → k (rowS p (s.length + 1)) σ') :
    kCall PG 45 [v, .string (bs s)] σ k := by
  obtain ⟨a1, ab, ao, acap, rfl, hac, ham, aat⟩ := tok_at hl
  unfold maxLen at ham
  have eS : ((s.length : Int) + 1).toNat = s.length + 1 := by omega
  refine f45 ?_
  have h1 := (h.new (cs := rowV (List.replicate (s.length + 1) false))).put (cs' := rowV (row0 s.length))
  have hl0 : (rowV (List.replicate (s.length + 1) false)).length = s.length + 1 := by rw [rowV_len, List.length_replicate]
  (try simp -dsimp (disch := first|exact P5|fail) only [↓P1,P2,↓P4,Q1,Q2,Q3,Q4,Q5,Q6,Q7,Q8,Q9, F45, ↓mks_row hs, hl0, row0_set])
  refine join_now ?_
  (try simp -dsimp (disch := first|exact P5|fail) only [↓P1,P2,↓P4,Q1,Q2,Q3,Q4,Q5,Q6,Q7,Q8,Q9])
  generalize σ.n = p0 at h1 ⊢
  generalize AS.put _ p0 _ = s0 at h1 ⊢
  refine loop_inv (fun nn xs s1 => ∃ (j p : Nat), xs = [rowS p (s.length + 1), .int .i64 j] ∧ Hs s1 X (Cel p (rowV (reachL (l.take j) s)) :: R) ∧ j ≤ l.length ∧ nn = l.length - j) _ ⟨0, p0, rfl, h1, Nat.zero_le _, rfl⟩ ?_
  clear h1
  rintro _ _ s1 again ⟨j, p, rfl, h1, hj, rfl⟩ hag
  by_cases hlt : j < l.length
  · obtain ⟨rfl, u, hkd, hu, c0, c1, c2, c3⟩ := aat j hlt
    obtain ⟨ra, rcap, hu', _⟩ := hu.val
    subst hu'
    have g0 := h1.ldx c0
    have g1 := h1.ldx c1
    have g2 := h1.ldx c2
    have g3 := h1.ldx c3
    have next : ∀ s2 p2, Hs s2 X (Cel p2 (rowV (stepL s (reachL (l.take j) s) l[j])) :: R) → again [rowS p2 (s.length + 1), .int .i64 ((j : Int) + 1)] s2 := by
      intro s2 p2 h2
      refine hag _ _ _ ⟨j + 1, p2, by simp, ?_, hlt, rfl⟩ (by omega)
      rw [List.take_succ_eq_append_getElem hlt]
      unfold reachL at h2 ⊢
      rw [List.foldl_append]
      exact h2
    clear hag
    have hrl : (reachL (l.take j) s).length = s.length + 1 := reachL_len _ _
    generalize reachL (l.take j) s = row at h1 next hrl
    have h2 := (((h1.new (cs := tokC 0 0 false (.slice none 0 0))).put (cs' := tokC l[j].1 l[j].2.1.toNat l[j].2.2.1 (.slice ra l[j].2.2.2.length rcap)))).new (cs := rowV (List.replicate (s.length + 1) false))
    (try simp -dsimp (disch := first|exact P5|fail) only [↓P1,P2,↓P4,Q1,Q2,Q3,Q4,Q5,Q6,Q7,Q8,Q9, g0, g1, g2, g3, ↓mks_row hs])
    refine join_now ?_
    (try simp -dsimp (disch := first|exact P5|fail) only [↓P1,P2,↓P4,Q1,Q2,Q3,Q4,Q5,Q6,Q7,Q8,Q9, g0, g1, g2, g3, ↓mks_row hs])
    refine join_now ?_
    (try simp -dsimp (disch := first|exact P5|fail) only [↓P1,P2,↓P4,Q1,Q2,Q3,Q4,Q5,Q6,Q7,Q8,Q9, g0, g1, g2, g3, ↓mks_row hs])
    simp only [put_n, new_n] at h2 ⊢
    generalize AS.new _ (Ob.cells (rowV (List.replicate (s.length + 1) false))) = s2 at h2 ⊢
    generalize s1.n + 1 = pn at h2 ⊢
    generalize s1.n = pt at h2 ⊢
    clear g0 g1 g2 g3 h1
    refine join_by fun J5 hJ5 => ?_
    have t5 : ∀ s3, Hs s3 X (Cel pn (rowV (stepL s row l[j])) :: R) → J5 [] s3 := by
      intro s3 h3
      refine hJ5 _ _ ?_
      (simp -dsimp (disch := first|exact P5|fail) only [↓P1,P2,↓P3,Q1,Q2,Q3,Q4,Q5,Q6,Q7,Q8,Q9])
      exact next _ _ h3
    clear hJ5 next
    have zl : (List.replicate (s.length + 1) false).length = s.length + 1 := by simp
    by_cases hk3 : l[j].1 = 3
    · have est : stepL s row l[j] = scanOr false row := by unfold stepL; rw [if_pos hk3]
      rw [est] at t5
      have hsl : (scanOr false row).length = row.length := scanOr_len _ _
      (simp -dsimp (disch := first|exact P5|fail) only [↓P1,P2,↓P3,Q1,Q2,Q3,Q4,Q5,Q6,Q7,Q8,Q9, h2.obj1, hk3])
      refine cpy_row (e := 4) (l := rowV (List.replicate (s.length + 1) false)) (news := rowV row) (sz := 1) (by kernel_rfl) (by kernel_rfl) h2.obj ?_ (rowV_ok row) (by rw [rowV_len, rowV_len, hrl, List.length_replicate, Nat.zero_add]; exact Nat.le_refl _) ?_
      · rw [ldsM h2.obj2 _ 0 (by rw [rowV_len, hrl]; simp), List.drop_zero, List.take_of_length_le (by rw [rowV_len, hrl]; simp)]
      have e1 : (rowV (List.replicate (s.length + 1) false)).take 0 ++ rowV row ++ (rowV (List.replicate (s.length + 1) false)).drop (0 + (rowV row).length) = rowV (mix (scanOr false row) row 1) := by
        rw [mix_one hsl (by omega) (scan_zero (by omega)), List.take_zero, List.nil_append, List.drop_eq_nil_of_le (by simp [rowV_len, hrl]), List.append_nil]
      rw [e1]
      have h3 := h2.put (cs' := rowV (mix (scanOr false row) row 1))
      refine loop_inv (fun nn xs s4 => ∃ i : Nat, xs = [.int .i64 i] ∧ 1 ≤ i ∧ i ≤ s.length + 1 ∧ Hs s4 X (Cel pn (rowV (mix (scanOr false row) row i)) :: Cel pt (tokC l[j].1 l[j].2.1.toNat l[j].2.2.1 (.slice ra l[j].2.2.2.length rcap)) :: Cel p (rowV row) :: R) ∧ nn = s.length + 1 - i) _ ⟨1, rfl, Nat.le_refl _, by omega, h3, rfl⟩ ?_
      clear h2 h3
      rintro _ _ s4 again2 ⟨i, rfl, hi1, hi2, h4, rfl⟩ hag2
      have hml : (mix (scanOr false row) row i).length = s.length + 1 := by rw [mix_len hsl (by omega), hrl]
      by_cases hil : i ≤ s.length
      · have c1 := rowV_get (l := mix (scanOr false row) row i) (i := i) (by omega)
        rw [mix_old hsl (Nat.le_refl _) (by omega)] at c1
        have c2 := rowV_get (l := mix (scanOr false row) row i) (i := i - 1) (by omega)
        rw [mix_new hsl (by omega) (by omega)] at c2
        have hsc := scan_succ row false (i - 1) (by omega)
        rw [show i - 1 + 1 = i from by omega] at hsc
        have hst := mix_set (nw := scanOr false row) (od := row) (i := i) hsl (by omega)
        have h5 := h4.put (cs' := rowV (mix (scanOr false row) row (i + 1)))
        have hrs : ∀ b, (scanOr false row)[i]?.getD false = b → (rowV (mix (scanOr false row) row i)).set i (.bool b) = rowV (mix (scanOr false row) row (i + 1)) := by
          rintro b rfl
          rw [rowV_set, hst]
        have hag3 := hag2 (s.length + 1 - (i + 1)) [.int .i64 ((i : Int) + 1)] _ ⟨i + 1, by simp, by omega, by omega, h5, rfl⟩ (by omega)
        cases hb : row[i]?.getD false with
        | true =>
          rw [hb, Bool.or_true] at hsc
          rw [hb] at c1
          (simp -dsimp (disch := first|exact P5|fail) only [↓P1,P2,↓P3,Q1,Q2,Q3,Q4,Q5,Q6,Q7,Q8,Q9, h4.obj, c1, rowV_len, hml, hrs _ hsc])
          exact hag3
        | false =>
          rw [hb, Bool.or_false] at hsc
          rw [hb] at c1
          (simp -dsimp (disch := first|exact P5|fail) only [↓P1,P2,↓P3,Q1,Q2,Q3,Q4,Q5,Q6,Q7,Q8,Q9, h4.obj, c1, c2, rowV_len, hml, hrs _ hsc])
          exact hag3
      · obtain rfl : i = s.length + 1 := by omega
        rw [← hrl, mix_all hsl] at h4
        (simp -dsimp (disch := first|exact P5|fail) only [↓P1,P2,↓P3,Q1,Q2,Q3,Q4,Q5,Q6,Q7,Q8,Q9])
        exact t5 _ (h4.swap.drop.swap.drop)
    · have est : stepL s row l[j] = false :: List.zipWith (fun b c => b && fit1 l[j] c) row s := by unfold stepL; rw [if_neg hk3]
      rw [est] at t5
      have zl2 : (false :: List.zipWith (fun b c => b && fit1 l[j] c) row s).length = (List.replicate (s.length + 1) false).length := by simp [hrl]
      (simp -dsimp (disch := first|exact P5|fail) only [↓P1,P2,↓P3,Q1,Q2,Q3,Q4,Q5,Q6,Q7,Q8,Q9, h2.obj1, hk3])
      rw [← mix_one zl2 (by simp) (by simp)] at h2
      refine loop_inv (fun nn xs s4 => ∃ i : Nat, xs = [.int .i64 i] ∧ i ≤ s.length ∧ Hs s4 X (Cel pn (rowV (mix (false :: List.zipWith (fun b c => b && fit1 l[j] c) row s) (List.replicate (s.length + 1) false) (i + 1))) :: Cel pt (tokC l[j].1 l[j].2.1.toNat l[j].2.2.1 (.slice ra l[j].2.2.2.length rcap)) :: Cel p (rowV row) :: R) ∧ nn = s.length - i) _ ⟨0, rfl, by omega, h2, rfl⟩ ?_
      clear h2
      rintro _ _ s4 again2 ⟨i, rfl, hi2, h4, rfl⟩ hag2
      have hml : (mix (false :: List.zipWith (fun b c => b && fit1 l[j] c) row s) (List.replicate (s.length + 1) false) (i + 1)).length = s.length + 1 := by rw [mix_len zl2 (by rw [zl]; omega), zl]
      by_cases hil : i < s.length
      · have c1 := rowV_get (l := row) (i := i) (by omega)
        have e1 : (s[i]?.getD 0) = s[i] := by rw [List.getElem?_eq_getElem hil]; rfl
        have hst := mix_set (nw := false :: List.zipWith (fun b c => b && fit1 l[j] c) row s) (od := List.replicate (s.length + 1) false) (i := i + 1) zl2 (by rw [zl]; omega)
        rw [List.getElem?_cons_succ, zip_get hrl hil] at hst
        have key : ∀ s5 b, Hs s5 X (Cel pn (rowV (mix (false :: List.zipWith (fun b c => b && fit1 l[j] c) row s) (List.replicate (s.length + 1) false) (i + 1))) :: Cel pt (tokC l[j].1 l[j].2.1.toNat l[j].2.2.1 (.slice ra l[j].2.2.2.length rcap)) :: Cel p (rowV row) :: R) →
            (row[i]?.getD false && fit1 l[j] s[i]) = b → again2 [.int .i64 ((i : Int) + 1)] (s5.put pn (.cells ((rowV (mix (false :: List.zipWith (fun b c => b && fit1 l[j] c) row s) (List.replicate (s.length + 1) false) (i + 1))).set (i + 1) (.bool b)))) := by
          rintro s5 b h5 rfl
          refine hag2 (s.length - (i + 1)) _ _ ⟨i + 1, by simp, by omega, ?_, rfl⟩ (by omega)
          rw [rowV_set, hst]
          exact h5.put
        clear hag2
        cases hb : row[i]?.getD false with
        | true =>
          rw [hb] at c1 key
          (simp -dsimp (disch := first|exact P5|fail) only [↓P1,P2,↓P3,Q1,Q2,Q3,Q4,Q5,Q6,Q7,Q8,Q9, h4.obj1, h4.obj2, c1, e1])
          refine has_c (kd := l[j].1) (b1 := l[j].2.1) (nt := l[j].2.2.1) (rs := l[j].2.2.2) (c := s[i]) rfl hu h4 fun s5 h5 => ?_
          (simp -dsimp (disch := first|exact P5|fail) only [↓P1,P2,↓P3,Q1,Q2,Q3,Q4,Q5,Q6,Q7,Q8,Q9, h5.obj, rowV_len, hml])
          exact key _ _ h5 (by rw [Bool.true_and])
        | false =>
          rw [hb] at c1 key
          (simp -dsimp (disch := first|exact P5|fail) only [↓P1,P2,↓P3,Q1,Q2,Q3,Q4,Q5,Q6,Q7,Q8,Q9, h4.obj, h4.obj1, h4.obj2, c1, rowV_len, hml])
          exact key _ _ h4 (by rw [Bool.false_and])
      · obtain rfl : i = s.length := by omega
        have e9 := mix_all zl2
        rw [zl] at e9
        rw [e9] at h4
        (simp -dsimp (disch := first|exact P5|fail) only [↓P1,P2,↓P3,Q1,Q2,Q3,Q4,Q5,Q6,Q7,Q8,Q9])
        exact t5 _ (h4.swap.drop.swap.drop)
  · obtain rfl : j = l.length := by omega
    rw [List.take_length] at h1
    (simp -dsimp (disch := first|exact P5|fail) only [↓P1,P2,↓P3,Q1,Q2,Q3,Q4,Q5,Q6,Q7,Q8,Q9])
    exact hk _ _ h1
end
end Go.Proofs.YtdlimikcgdgfpaaGreatDoor.G02
namespace Go.Proofs.YtdlimikcgdgfpaaGreatDoor.G02
open Tryz renaming prog → PG
open E renaming preR → P1, postR → P2, w_join → P3, w_stop → P4, dsc → P5
open E Go.Lib
theorem pick_congr {p q : Nat → Bool} {longest : Bool} : ∀ {n : Nat}, (∀ i, i < n → p i = q i) → pick p longest n = pick q longest n
  | 0, _ => rfl
  | n + 1, h => by
    have ih := pick_congr (p := p) (q := q) (longest := longest) (n := n) (fun i hi => h i (by omega))
    simp only [pick, ih, h n (by omega)]
section
variable {σ σ' : AS} {X : Ce} {R : List Ck} {k : Value → AS → Prop} {l a b : List Tok} {u v va vb : Value} {c b1 : UInt8} {kd : Int} {nt : Bool} {p : Nat} {rs : List (UInt8 × UInt8)} {s : Str} {longest : Bool}
theorem match_c (hl : RepL X v l) (hs : s.length ≤ 1000000) (h : Hs σ X R) (hk : ∀ σ', Hs σ' X R → k (.bool (matchL l s)) σ') : kCall PG 17 [v, .string (bs s)] σ k := by
  refine f17 ?_
  (simp -dsimp (disch := first|exact P5|fail) only [↓P1,P2,↓P3,Q1,Q2,Q3,Q4,Q5,Q6,Q7,Q8,Q9, F17])
  refine reach_c hl hs h fun p s2 h2 => ?_
  have c1 := rowV_get (l := reachL l s) (i := s.length) (by rw [reachL_len]; omega)
  (simp -dsimp (disch := first|exact P5|fail) only [↓P1,P2,↓P3,Q1,Q2,Q3,Q4,Q5,Q6,Q7,Q8,Q9, h2.obj, c1])
  exact hk _ h2.drop
theorem front_c (hl : RepL X v l) (hs : s.length ≤ 1000000) (h : Hs σ X R) (hk : ∀ σ', Hs σ' X R → k (.int .i64 (frontL l s longest)) σ') : kCall PG 139 [v, .string (bs s), .bool longest] σ k := by
  refine f139 ?_
  (try simp -dsimp (disch := first|exact P5|fail) only [↓P1,P2,↓P4,Q1,Q2,Q3,Q4,Q5,Q6,Q7,Q8,Q9, F139])
  refine join_now ?_
  (try simp -dsimp (disch := first|exact P5|fail) only [↓P1,P2,↓P4,Q1,Q2,Q3,Q4,Q5,Q6,Q7,Q8,Q9])
  refine reach_c hl hs h fun p s2 h2 => ?_
  (try simp -dsimp (disch := first|exact P5|fail) only [↓P1,P2,↓P4,Q1,Q2,Q3,Q4,Q5,Q6,Q7,Q8,Q9])
  have hrl := reachL_len l s
  refine loop_inv (fun nn xs s1 => ∃ j : Nat, xs = [.int .i64 (pick (fun n => (reachL l s)[n]?.getD false) longest j), .int .i64 j] ∧ s2 = s1 ∧ j ≤ s.length + 1 ∧ nn = s.length + 1 - j) _ ⟨0, rfl, rfl, Nat.zero_le _, rfl⟩ ?_
  rintro _ _ s1 again ⟨j, rfl, rfl, hj, rfl⟩ hag
  by_cases hlt : j < s.length + 1
  · have c1 := rowV_get (l := reachL l s) (i := j) (by omega)
    have hag3 := hag (s.length + 1 - (j + 1)) _ s2 ⟨j + 1, rfl, rfl, by omega, rfl⟩ (by omega)
    have e : pick (fun n => (reachL l s)[n]?.getD false) longest (j + 1) = if (reachL l s)[j]?.getD false && (decide (pick (fun n => (reachL l s)[n]?.getD false) longest j < 0) || longest) then (j : Int) else pick (fun n => (reachL l s)[n]?.getD false) longest j := rfl
    rw [e] at hag3
    clear hag e
    generalize pick (fun n => (reachL l s)[n]?.getD false) longest j = at_ at hag3 ⊢
    rw [show ((j + 1 : Nat) : Int) = (j : Int) + 1 from by omega] at hag3
    generalize (reachL l s)[j]?.getD false = b at c1 hag3
    cases b with
    | false =>
      (simp -dsimp (disch := first|exact P5|fail) only [↓P1,P2,↓P3,Q1,Q2,Q3,Q4,Q5,Q6,Q7,Q8,Q9, h2.obj, c1])
      exact hag3
    | true =>
      by_cases h0 : at_ < 0
      · simp only [h0, decide_true, Bool.true_or, Bool.and_true, if_true] at hag3
        (simp -dsimp (disch := first|exact P5|fail) only [↓P1,P2,↓P3,Q1,Q2,Q3,Q4,Q5,Q6,Q7,Q8,Q9, h2.obj, c1])
        exact hag3
      · simp only [h0, decide_false, Bool.false_or, Bool.true_and] at hag3
        cases longest with
        | true =>
          (simp -dsimp (disch := first|exact P5|fail) only [↓P1,P2,↓P3,Q1,Q2,Q3,Q4,Q5,Q6,Q7,Q8,Q9, h2.obj, c1])
          exact hag3
        | false =>
          (simp -dsimp (disch := first|exact P5|fail) only [↓P1,P2,↓P3,Q1,Q2,Q3,Q4,Q5,Q6,Q7,Q8,Q9, h2.obj, c1])
          exact hag3
  · obtain rfl : j = s.length + 1 := by omega
    (simp -dsimp (disch := first|exact P5|fail) only [↓P1,P2,↓P3,Q1,Q2,Q3,Q4,Q5,Q6,Q7,Q8,Q9])
    exact hk _ h2.drop
theorem back_c (hl : RepL X v l) (hs : s.length ≤ 1000000) (h : Hs σ X R) (hk : ∀ σ', Hs σ' X R → k (.int .i64 (backL l s longest)) σ') : kCall PG 140 [v, .string (bs s), .bool longest] σ k := by
  refine f140 ?_
  (try simp -dsimp (disch := first|exact P5|fail) only [↓P1,P2,↓P4,Q1,Q2,Q3,Q4,Q5,Q6,Q7,Q8,Q9, F140])
  refine join_now ?_
  (try simp -dsimp (disch := first|exact P5|fail) only [↓P1,P2,↓P4,Q1,Q2,Q3,Q4,Q5,Q6,Q7,Q8,Q9])
  refine loop_inv (fun nn xs s1 => ∃ j : Nat, xs = [.int .i64 (pick (fun n => matchL l (s.drop (s.length - n))) longest j), .int .i64 j] ∧ Hs s1 X R ∧ j ≤ s.length + 1 ∧ nn = s.length + 1 - j) _ ⟨0, rfl, h, Nat.zero_le _, rfl⟩ ?_
  clear h
  rintro _ _ s1 again ⟨j, rfl, h, hj, rfl⟩ hag
  by_cases hlt : j < s.length + 1
  · have hag3 := fun s2 h2 => hag (s.length + 1 - (j + 1)) _ s2 ⟨j + 1, rfl, h2, by omega, rfl⟩ (by omega)
    have e : pick (fun n => matchL l (s.drop (s.length - n))) longest (j + 1) = if matchL l (s.drop (s.length - j)) && (decide (pick (fun n => matchL l (s.drop (s.length - n))) longest j < 0) || longest) then (j : Int) else pick (fun n => matchL l (s.drop (s.length - n))) longest j := rfl
    rw [e] at hag3
    clear hag e
    generalize pick (fun n => matchL l (s.drop (s.length - n))) longest j = at_ at hag3 ⊢
    rw [show ((j + 1 : Nat) : Int) = (j : Int) + 1 from by omega] at hag3
    have eN : ((s.length : Int) - (j : Int)).toNat = s.length - j := by omega
    have eD : (s.drop (s.length - j)).take (s.length - (s.length - j)) = s.drop (s.length - j) := List.take_of_length_le (by simp)
    have go : ∀ {K : Value → AS → Prop}, (∀ s3, Hs s3 X R → K (.bool (matchL l (s.drop (s.length - j)))) s3) → kCall PG 17 [v, .string (bs (s.drop (s.length - j)))] s1 K := fun hK => match_c hl (by simp; omega) h hK
    by_cases h0 : at_ < 0
    · simp only [h0, decide_true, Bool.true_or, Bool.and_true] at hag3
      (simp -dsimp (disch := first|exact P5|fail) only [↓P1,P2,↓P3,Q1,Q2,Q3,Q4,Q5,Q6,Q7,Q8,Q9, eN, eD])
      refine go fun s3 h3 => ?_
      have hag4 := hag3 s3 h3
      cases hm : matchL l (s.drop (s.length - j)) <;> rw [hm] at hag4 <;> ((simp -dsimp (disch := first|exact P5|fail) only [↓P1,P2,↓P3,Q1,Q2,Q3,Q4,Q5,Q6,Q7,Q8,Q9]); exact hag4)
    · simp only [h0, decide_false, Bool.false_or] at hag3
      cases longest with
      | true =>
        simp only [Bool.and_true] at hag3
        (simp -dsimp (disch := first|exact P5|fail) only [↓P1,P2,↓P3,Q1,Q2,Q3,Q4,Q5,Q6,Q7,Q8,Q9, eN, eD])
        refine go fun s3 h3 => ?_
        have hag4 := hag3 s3 h3
        cases hm : matchL l (s.drop (s.length - j)) <;> rw [hm] at hag4 <;> ((simp -dsimp (disch := first|exact P5|fail) only [↓P1,P2,↓P3,Q1,Q2,Q3,Q4,Q5,Q6,Q7,Q8,Q9]); exact hag4)
      | false =>
        simp only [Bool.and_false] at hag3
        (simp -dsimp (disch := first|exact P5|fail) only [↓P1,P2,↓P3,Q1,Q2,Q3,Q4,Q5,Q6,Q7,Q8,Q9, eN, eD])
        exact hag3 _ h
  · obtain rfl : j = s.length + 1 := by omega
    (simp -dsimp (disch := first|exact P5|fail) only [↓P1,P2,↓P3,Q1,Q2,Q3,Q4,Q5,Q6,Q7,Q8,Q9])
    exact hk _ h
end
end Go.Proofs.YtdlimikcgdgfpaaGreatDoor.G02
namespace Go.Proofs.YtdlimikcgdgfpaaGreatDoor
open Tryz renaming prog → PG
open E renaming preR → P1, postR → P2, w_join → P3, w_stop → P4, dsc → P5
open E Go.Lib S09 G02 V08 W05
structure XS where
  v : VM
  used : Nat
  e : Int
  wants : Bool
  need : Str
  msg : Str
abbrev pw (q : Nat) : Value := .pointer (some ⟨q, 0, none⟩)
abbrev xC (q : Nat) (ua : Value) (s : XS) : List Value := [pw q, ua, .int .i64 s.used, .int .i64 s.e, .bool s.wants, .string (bs s.need), .string (bs s.msg)]
abbrev XL (p q : Nat) (zero : Str) (ua : Value) (s : XS) (R : List Ck) : List Ck := Cel p (xC q ua s) :: Vm q zero s.v :: R
def XS.over (s : XS) : Bool := decide (¬ s.e = 0) || s.wants
def ifsX (s : XS) : Str := if (getV s.v.l [73, 70, 83]).set = true then (getV s.v.l [73, 70, 83]).val else [32, 9, 10]
abbrev pcv (t : Str) (q sp br : Bool) : Value := .agg [.string (bs t), .bool q, .bool sp, .bool br].toArray
abbrev ptV (p : Pt) (v : Value) : Value := .agg (ptC p v).toArray
section
variable {σ σ' : AS} {X : Ce} {R : List Ck} {k : Value → AS → Prop} {p q : Nat} {zero t : Str} {ua wv v : Value} {s s' : XS} {inner : Bool} {x : Pt}
theorem over_c (h : Hs σ X (XL p q zero ua s R)) (hk : k (.bool s.over) σ) : kCall PG 36 [pw p] σ k := by
  refine f36 ?_
  unfold XS.over at hk
  by_cases he : s.e = 0
  · rw [decide_eq_false (fun h => h he), Bool.false_or] at hk
    (simp -dsimp (disch := first|exact P5|fail) only [↓P1,P2,↓P3,Q1,Q2,Q3,Q4,Q5,Q6,Q7,Q8,Q9, F36, h.obj, he])
    exact hk
  · rw [decide_eq_true he, Bool.true_or] at hk
    (simp -dsimp (disch := first|exact P5|fail) only [↓P1,P2,↓P3,Q1,Q2,Q3,Q4,Q5,Q6,Q7,Q8,Q9, F36, h.obj, he])
    exact hk
theorem ifs_c (h : Hs σ X (XL p q zero ua s R)) (hk : ∀ σ', Hs σ' X (XL p q zero ua s R) → k (.string (bs (ifsX s))) σ') : kCall PG 38 [pw p] σ k := by
  refine f38 ?_
  (try simp -dsimp (disch := first|exact P5|fail) only [↓P1,P2,↓P4,Q1,Q2,Q3,Q4,Q5,Q6,Q7,Q8,Q9, F38])
  refine join_by fun J hJ => ?_
  (try simp -dsimp (disch := first|exact P5|fail) only [↓P1,P2,↓P4,Q1,Q2,Q3,Q4,Q5,Q6,Q7,Q8,Q9, h.obj])
  refine get_c h.swap fun σ1 h1 => ?_
  unfold ifsX at hk
  cases hb : (getV s.v.l [73, 70, 83]).set with
  | true =>
    rw [if_pos hb] at hk
    (try simp -dsimp (disch := first|exact P5|fail) only [↓P1,P2,↓P4,Q1,Q2,Q3,Q4,Q5,Q6,Q7,Q8,Q9, hb])
    exact hk _ h1.swap
  | false =>
    rw [if_neg (by rw [hb]; decide)] at hk
    (try simp -dsimp (disch := first|exact P5|fail) only [↓P1,P2,↓P4,Q1,Q2,Q3,Q4,Q5,Q6,Q7,Q8,Q9, hb])
    refine hJ _ _ ?_
    (try simp -dsimp (disch := first|exact P5|fail) only [↓P1,P2,↓P4,Q1,Q2,Q3,Q4,Q5,Q6,Q7,Q8,Q9])
    exact hk _ h1.swap
theorem xpiece_c (h : Hs σ X R) (hx : RpPt X x (ptC x v)) (hk : ∀ σ', Hs σ' X R → k (pcv t x.quote (!x.quote) false) σ') : kCall PG 64 [.string (bs t), ptV x v] σ k := by
  refine f64 ?_
  obtain ⟨va, vn, vc, rfl⟩ := hx.val
  have h1 := h.new (cs := ptC x (.slice va vn vc))
  have h2 := h1.new (cs := [.string (bs []), .bool false, .bool false, .bool false])
  (simp -dsimp (disch := first|exact P5|fail) only [↓P1,P2,↓P3,Q1,Q2,Q3,Q4,Q5,Q6,Q7,Q8,Q9, F64, h1.obj, h2.obj1])
  exact hk _ (h2.put.drop.drop)
theorem trimr_c (hl : t.length ≤ maxLen) (hk : k (.string (bs (cutR 10 t))) σ) : kCall PG 65 [.string (bs t), .string (bs [10])] σ k := by
  unfold maxLen at hl
  refine f65 ?_
  have e10 : ¬ ([10] : List UInt8) = [] := by decide
  by_cases h0 : t = []
  · subst h0
    rw [cutR_nil] at hk
    (try simp -dsimp (disch := first|exact P5|fail) only [↓P1,P2,↓P4,Q1,Q2,Q3,Q4,Q5,Q6,Q7,Q8,Q9, F65])
    refine join_now ?_
    (try simp -dsimp (disch := first|exact P5|fail) only [↓P1,P2,↓P4,Q1,Q2,Q3,Q4,Q5,Q6,Q7,Q8,Q9])
    exact hk
  (try simp -dsimp (disch := first|exact P5|fail) only [↓P1,P2,↓P4,Q1,Q2,Q3,Q4,Q5,Q6,Q7,Q8,Q9, F65])
  refine join_by fun J hJ => ?_
  (try simp -dsimp (disch := first|exact P5|fail) only [↓P1,P2,↓P4,Q1,Q2,Q3,Q4,Q5,Q6,Q7,Q8,Q9, h0, e10])
  refine hJ _ _ ?_
  clear hJ
  (try simp -dsimp (disch := first|exact P5|fail) only [↓P1,P2,↓P4,Q1,Q2,Q3,Q4,Q5,Q6,Q7,Q8,Q9])
  refine join_by fun J2 hJ2 => ?_
  have e0 : ([10] : List UInt8)[0]? = some 10 := rfl
  (try simp -dsimp (disch := first|exact P5|fail) only [↓P1,P2,↓P4,Q1,Q2,Q3,Q4,Q5,Q6,Q7,Q8,Q9, e0])
  change kCall PG 97 [.string (bs t), .int .u8 10] σ _
  refine f97 ?_
  (try simp -dsimp (disch := first|exact P5|fail) only [↓P1,P2,↓P4,Q1,Q2,Q3,Q4,Q5,Q6,Q7,Q8,Q9, F97])
  refine join_by fun J3 hJ3 => ?_
  have fin : ∀ u, u = cutR 10 t → J3 [.string (bs u)] σ := fun u hu => hJ3 _ _ (by (try simp -dsimp (disch := first|exact P5|fail) only [↓P1,P2,↓P4,Q1,Q2,Q3,Q4,Q5,Q6,Q7,Q8,Q9]); rw [hu]; exact hk)
  clear hJ3 hJ2 hk
  refine loop_inv (fun nn xs s1 => ∃ u : Str, xs = [.string (bs u)] ∧ σ = s1 ∧ u.length ≤ t.length ∧ cutR 10 u = cutR 10 t ∧ nn = u.length) _ ⟨t, rfl, rfl, Nat.le_refl _, rfl, rfl⟩ ?_
  rintro _ _ s1 again ⟨u, rfl, rfl, hu, hc, rfl⟩ hag
  rcases List.eq_nil_or_concat u with rfl | ⟨u', y, rfl⟩
  · (try simp -dsimp (disch := first|exact P5|fail) only [↓P1,P2,↓P4,Q1,Q2,Q3,Q4,Q5,Q6,Q7,Q8,Q9])
    refine join_now ?_
    (try simp -dsimp (disch := first|exact P5|fail) only [↓P1,P2,↓P4,Q1,Q2,Q3,Q4,Q5,Q6,Q7,Q8,Q9])
    exact fin _ (by rw [← hc]; rfl)
  · rw [List.concat_eq_append] at hu hc hag ⊢
    have hl1 : (u' ++ [y]).length = u'.length + 1 := by simp
    rw [cutR_snoc] at hc
    have e1 : (((u' ++ [y]).length : Int) - 1).toNat = u'.length := by rw [hl1]; omega
    have e2 : (u' ++ [y])[u'.length]? = some y := by simp
    have g1 : (0 : Int) < ((u' ++ [y]).length : Int) := by rw [hl1]; omega
    by_cases hy : y = 10
    · rw [if_pos hy] at hc
      have ey : ((y.toNat : Int) = 10) := by rw [hy]; rfl
      (try simp -dsimp (disch := first|exact P5|fail) only [↓P1,P2,↓P4,Q1,Q2,Q3,Q4,Q5,Q6,Q7,Q8,Q9, e1, e2, g1, Option.getD_some, ey])
      refine join_by fun J4 hJ4 => ?_
      (try simp -dsimp (disch := first|exact P5|fail) only [↓P1,P2,↓P4,Q1,Q2,Q3,Q4,Q5,Q6,Q7,Q8,Q9, e1, e2, g1, Option.getD_some, ey])
      refine hJ4 _ _ ?_
      (try simp -dsimp (disch := first|exact P5|fail) only [↓P1,P2,↓P4,Q1,Q2,Q3,Q4,Q5,Q6,Q7,Q8,Q9, e1])
      rw [List.take_append_of_le_length (Nat.le_refl _), List.take_length]
      exact hag _ _ _ ⟨u', rfl, rfl, by omega, hc, rfl⟩ (by rw [hl1]; omega)
    · rw [if_neg hy] at hc
      have ey : ¬ ((y.toNat : Int) = 10) := fun h => hy (UInt8.toNat_inj.1 (by show y.toNat = 10; omega))
      (try simp -dsimp (disch := first|exact P5|fail) only [↓P1,P2,↓P4,Q1,Q2,Q3,Q4,Q5,Q6,Q7,Q8,Q9, e1, e2, g1, Option.getD_some, ey])
      refine join_by fun J4 hJ4 => ?_
      (try simp -dsimp (disch := first|exact P5|fail) only [↓P1,P2,↓P4,Q1,Q2,Q3,Q4,Q5,Q6,Q7,Q8,Q9, e1, e2, g1, Option.getD_some, ey])
      exact fin _ hc
end
end Go.Proofs.YtdlimikcgdgfpaaGreatDoor
namespace Go.Proofs.YtdlimikcgdgfpaaGreatDoor
open Tryz renaming prog → PG
open E renaming preR → P1, postR → P2, w_join → P3, w_stop → P4, dsc → P5
open E Go.Lib
theorem pos_idx (c : UInt8) : ∀ l : Str, indexByte l c = match posB c l with | some n => (n : Int) | none => -1
  | [] => rfl
  | a :: l => by
    have ih := pos_idx c l
    unfold indexByte posB
    by_cases h : a = c
    · subst h; simp
    · have : (a == c) = false := by simpa using h
      rw [this]
      simp only [Bool.false_eq_true, if_false, h]
      rw [ih]
      cases posB c l with
      | none => rfl
      | some n =>
        have : ¬ ((n : Int) == -1) = true := by simp
        simp only [this, if_false, Option.map_some]
        simp
theorem getd {s : Str} {i : Nat} (h : i < s.length) : (s[i]?).getD 0 = s[i] := by simp [h]
theorem pos_no {c : UInt8} : ∀ {l : Str}, (∀ x, x ∈ l → x ≠ c) → posB c l = none
  | [], _ => rfl
  | a :: l, h => by
    show (if a = c then some 0 else (posB c l).map (· + 1)) = none
    rw [if_neg (h a (by simp)), pos_no (l := l) fun x hx => h x (by simp [hx])]
    rfl
section
variable {σ : AS} {k : Value → AS → Prop} {s : Str} {c : UInt8}
theorem idx_c {m : Int} (hm : m = c.toNat) (hk : k (.int .i64 (match posB c s with | some n => (n : Int) | none => -1)) σ) : kCall PG 72 [.string (bs s), .int .u8 m] σ k := by
  subst hm
  refine f72 ?_
  (simp -dsimp (disch := first|exact P5|fail) only [↓P1,P2,↓P3,Q1,Q2,Q3,Q4,Q5,Q6,Q7,Q8,Q9, F72])
  refine f111 ?_
  (simp -dsimp (disch := first|exact P5|fail) only [↓P1,P2,↓P3,Q1,Q2,Q3,Q4,Q5,Q6,Q7,Q8,Q9, F111])
  refine idx_by (by kernel_rfl) (by kernel_rfl) ?_
  have e : ((c.toNat : Int)).toNat.toUInt8 = c := by simp
  rw [e, pos_idx]
  exact hk
end
end Go.Proofs.YtdlimikcgdgfpaaGreatDoor
namespace Go.Proofs.YtdlimikcgdgfpaaGreatDoor.A03
open E Go.Lib
abbrev blk3 : Str := [32, 9, 10]
def skipB (s : Str) : Str := trimLeftS s blk3
def digV (c : UInt8) : Nat := if 48 ≤ c.toNat ∧ c.toNat ≤ 57 then c.toNat - 48 else if 97 ≤ c.toNat ∧ c.toNat ≤ 102 then c.toNat - 87 else if 65 ≤ c.toNat ∧ c.toNat ≤ 70 then c.toNat - 55 else 99
def valB (base : Nat) : Str → Nat → Option Nat
  | [], a => some a
  | c :: t, a => if digV c < base then valB base t (a * base + digV c) else none
def numP (w : Str) : Option Nat := match w with
  | [] => none
  | [c] => valB 10 [c] 0
  | c :: x :: t =>
    if c = 48 then
      (if (x = 120 ∨ x = 88) ∧ t ≠ [] then valB 16 t 0 else valB 8 (x :: t) 0)
    else valB 10 (c :: x :: t) 0
def valueP (s : Str) : Int × Int := match trimS s blk3 with
  | [] => (0, 0)
  | c :: t =>
    match numP (if c = 43 ∨ c = 45 then t else c :: t) with
    | none => (0, 10)
    | some n => if c = 45 then (if 9223372036854775808 < n then (0, 10) else (-(n : Int), 0)) else (if 9223372036854775808 ≤ n then (0, 10) else ((n : Int), 0))
def rankOf (op : Str) : Nat := match op with
  | [124, 124] => 1
  | [38, 38] => 2
  | [124] => 3
  | [94] => 4
  | [38] => 5
  | [61, 61] => 6
  | [33, 61] => 6
  | [60] => 7
  | [60, 61] => 7
  | [62] => 7
  | [62, 61] => 7
  | [60, 60] => 8
  | [62, 62] => 8
  | [43] => 9
  | [45] => 9
  | [42] => 10
  | [47] => 10
  | [37] => 10
  | _ => 0
def asgn (op : Str) : Bool := match op with
  | [61] => true
  | [43, 61] => true
  | [45, 61] => true
  | [42, 61] => true
  | [47, 61] => true
  | [37, 61] => true
  | _ => false
def nextP (l : Str) : Str := match l with
  | [] => []
  | [a] => [a]
  | a :: b :: _ => if rankOf [a, b] ≠ 0 ∨ asgn [a, b] = true then [a, b] else [a]
def truthI (b : Bool) : Int := if b = true then 1 else 0
def wI (n : Int) : Int := IntKind.i64.wrap n
def bI (op : BinOp) (a b : Int) : Int := match intV op .i64 a b with
  | some (.int _ n) => n
  | _ => 0
def shI (op : BinOp) (a b : Int) : Int := match shV op .i64 a (b % 64) with
  | some (.int _ n) => n
  | _ => 0
def lowI : Int := -9223372036854775808
def doP (op : Str) (a b : Int) : Int × Int := match op with
  | [124] => (bI .or a b, 0)
  | [94] => (bI .xor a b, 0)
  | [38] => (bI .and a b, 0)
  | [61, 61] => (truthI (decide (a = b)), 0)
  | [33, 61] => (truthI (decide (¬ a = b)), 0)
  | [60] => (truthI (decide (a < b)), 0)
  | [60, 61] => (truthI (decide (a ≤ b)), 0)
  | [62] => (truthI (decide (b < a)), 0)
  | [62, 61] => (truthI (decide (b ≤ a)), 0)
  | [60, 60] => (shI .shl a b, 0)
  | [62, 62] => (shI .shr a b, 0)
  | [43] => (wI (a + b), 0)
  | [45] => (wI (a - b), 0)
  | [42] => (wI (a * b), 0)
  | [47] => if b = 0 then (0, 13) else if a = lowI ∧ b = -1 then (lowI, 0) else (wI (a.tdiv b), 0)
  | [37] => if b = 0 then (0, 13) else if a = lowI ∧ b = -1 then (0, 0) else (a.tmod b, 0)
  | _ => (0, 0)
structure ASt where
  left : Str
  over : Nat
  fell : Int
  sets : List (Str × Int)
def ASt.live (st : ASt) : Bool := decide (st.over = 0) && decide (st.fell = 0)
def ASt.skip (st : ASt) : ASt := { st with left := skipB st.left }
def ASt.at (st : ASt) (l : Str) : ASt := { st with left := l }
def ASt.pass (st : ASt) (is : Bool) : ASt := { st with over := if is = true then st.over else st.over + 1 }
def ASt.un (st : ASt) (n : Nat) : ASt := { st with over := n }
def lookS (l : List (Str × Int)) (name : Str) : Option Int := (l.reverse.find? fun p => decide (p.1 = name)).map (·.2)
def askP (look : Str → Int × Int) (st : ASt) (name : Str) : Int × ASt :=
  if st.live = true then
    (match lookS st.sets name with
    | some n => (n, st)
    | none => ((look name).1, { st with fell := (look name).2 }))
  else (0, st)
def doesP (op : Str) (a b : Int) (st : ASt) : Int × ASt := if st.live = true then ((doP op a b).1, { st with fell := (doP op a b).2 }) else (0, st)
def pushP (st : ASt) (name : Str) (v : Int) : ASt := if st.live = true then { st with sets := st.sets ++ [(name, v)] } else st
inductive Md where
  | set | choice | rank (r : Nat) | loop (r : Nat) (a : Int) | opnd
def ev (look : Str → Int × Int) : Nat → Md → ASt → Option (Int × ASt)
  | 0, _, _ => none
  | f + 1, .set, s0 =>
    let st := s0.skip
    let n := frontF 0 st.left
    let rest := skipB (st.left.drop n)
    if n ≠ 0 ∧ asgn (nextP rest) = true then
      (match ev look f .set (st.at (rest.drop (nextP rest).length)) with
      | none => none
      | some (v, s2) =>
        let r := if nextP rest = [61] then (v, s2) else doesP ((nextP rest).take 1) (askP look s2 (st.left.take n)).1 v (askP look s2 (st.left.take n)).2
        some (r.1, pushP r.2 (st.left.take n) r.1))
    else ev look f .choice st
  | f + 1, .choice, st =>
    (match ev look f (.rank 1) st with
    | none => none
    | some (c, s1) =>
      match skipB s1.left with
      | 63 :: t =>
        (match ev look f .set ((s1.at t).pass (decide (¬ c = 0))) with
        | none => none
        | some (a, s2) =>
          match skipB s2.left with
          | 58 :: t2 =>
            (match ev look f .choice (((s2.un s1.over).at t2).pass (decide (c = 0))) with
            | none => none
            | some (b, s3) => some (if c = 0 then b else a, s3.un s1.over))
          | _ => none)
      | _ => some (c, s1.skip))
  | f + 1, .rank r, st =>
    if 10 < r then ev look f .opnd st else
      match ev look f (.rank (r + 1)) st with
      | none => none
      | some (a, s1) => ev look f (.loop r a) s1
  | f + 1, .loop r a, s0 =>
    let st := s0.skip
    let op := nextP st.left
    if rankOf op = r ∧ r ≠ 0 then
      (match ev look f (.rank (r + 1)) ((st.at (st.left.drop op.length)).pass (if r = 1 then decide (a = 0) else if r = 2 then decide (¬ a = 0) else true)) with
      | none => none
      | some (b, s2) =>
        if r = 1 then ev look f (.loop r (truthI (decide (¬ a = 0) || decide (¬ b = 0)))) (s2.un st.over)
        else if r = 2 then ev look f (.loop r (truthI (decide (¬ a = 0) && decide (¬ b = 0)))) (s2.un st.over)
        else ev look f (.loop r (doesP op a b (s2.un st.over)).1) (doesP op a b (s2.un st.over)).2)
    else some (a, st)
  | f + 1, .opnd, s0 =>
    let st := s0.skip
    match st.left with
    | [] => none
    | c :: t =>
      if c = 43 ∨ c = 45 ∨ c = 33 ∨ c = 126 then
        (match ev look f .opnd (st.at t) with
        | none => none
        | some (n, s1) => some (if c = 45 then wI (0 - n) else if c = 33 then truthI (decide (n = 0)) else if c = 126 then -n - 1 else n, s1))
      else if c = 40 then
        (match ev look f .set (st.at t) with
        | none => none
        | some (n, s1) =>
          match skipB s1.left with
          | 41 :: t2 => some (n, s1.at t2)
          | _ => none)
      else if alphaB c = true then some (askP look (st.at ((c :: t).drop (frontF 0 (c :: t)))) ((c :: t).take (frontF 0 (c :: t))))
      else if digitB c = true then
        (match numP ((c :: t).take (frontF 1 (c :: t))) with
        | none => none
        | some n => if 9223372036854775808 ≤ n then none else some ((n : Int), st.at ((c :: t).drop (frontF 1 (c :: t)))))
      else none
def evF (s : Str) : Nat := 20 * s.length + 40
end Go.Proofs.YtdlimikcgdgfpaaGreatDoor.A03
namespace Go.Proofs.YtdlimikcgdgfpaaGreatDoor.A03
open E Go.Lib
theorem skip_len (s : Str) : (skipB s).length ≤ s.length := (List.dropWhile_sublist _).length_le
theorem wI_in (n : Int) : inI64 (wI n) := by
  unfold wI; rw [IntKind.wrap_i64]; unfold inI64; omega
theorem truth_in (b : Bool) : inI64 (truthI b) := by cases b <;> (unfold truthI inI64; decide)
theorem bI_in (op : BinOp) (a b : Int) (h : op = .or ∨ op = .xor ∨ op = .and) : inI64 (bI op a b) := by
  rcases h with rfl | rfl | rfl <;> exact wI_in _
theorem fdiv_in {a d : Int} (ha : inI64 a) (hd : 1 ≤ d) : inI64 (a.fdiv d) := by
  unfold inI64 at *
  rw [Int.fdiv_eq_ediv_of_nonneg a (by omega)]
  by_cases h : 0 ≤ a
  · have h1 := Int.ediv_nonneg h (show 0 ≤ d by omega)
    have h2 := Int.ediv_le_self d h
    omega
  · have h1 : a * d ≤ a := by
      have := Int.mul_le_mul_of_nonpos_left (a := a) (show a ≤ 0 by omega) hd
      omega
    have h2 : a ≤ a / d := Int.le_ediv_of_mul_le (by omega) h1
    have h3 : a / d < 0 := Int.ediv_neg_of_neg_of_pos (by omega) (by omega)
    omega
theorem two_pow_pos (n : Nat) : (1 : Int) ≤ 2 ^ n := by
  have : (0 : Int) < 2 ^ n := Int.pow_pos (by decide)
  omega
theorem shI_in (op : BinOp) (a b : Int) (ha : inI64 a) : inI64 (shI op a b) := by
  unfold shI
  split
  · rename_i n hn
    unfold shV at hn
    split at hn
    · cases hn
    · split at hn
      · injection hn with hn; injection hn with _ hn; subst hn; exact wI_in _
      · injection hn with hn; injection hn with _ hn; subst hn; exact fdiv_in ha (two_pow_pos _)
      · cases hn
  · unfold inI64; omega
theorem tmod_in {a b : Int} (ha : inI64 a) : inI64 (a.tmod b) := by
  unfold inI64 at *
  have h1 : (a.tmod b).natAbs ≤ a.natAbs := by
    rw [Int.natAbs_tmod]; exact Nat.mod_le _ _
  by_cases h : 0 ≤ a
  · have := Int.tmod_nonneg b h
    omega
  · have := Int.tmod_nonneg b (show 0 ≤ -a by omega)
    rw [Int.neg_tmod] at this
    omega
theorem doP_in (op : Str) (a b : Int) (ha : inI64 a) (hb : inI64 b) : inI64 (doP op a b).1 := by
  unfold doP
  split
  · exact bI_in _ _ _ (.inl rfl)
  · exact bI_in _ _ _ (.inr (.inl rfl))
  · exact bI_in _ _ _ (.inr (.inr rfl))
  · exact truth_in _
  · exact truth_in _
  · exact truth_in _
  · exact truth_in _
  · exact truth_in _
  · exact truth_in _
  · exact shI_in _ _ _ ha
  · exact shI_in _ _ _ ha
  · exact wI_in _
  · exact wI_in _
  · exact wI_in _
  · split
    · unfold inI64; decide
    split
    · unfold inI64 lowI; decide
    · exact wI_in _
  · split
    · unfold inI64; decide
    split
    · unfold inI64; decide
    · exact tmod_in ha
  · unfold inI64; decide
def SetsI (B : Nat) (l : List (Str × Int)) : Prop := ∀ p, p ∈ l → p.1.length ≤ B ∧ inI64 p.2
structure InvS (B : Nat) (st : ASt) : Prop where
  n : st.over + st.left.length + st.sets.length ≤ B
  s : SetsI B st.sets
def LookI (look : Str → Int × Int) : Prop := ∀ s, inI64 (look s).1
theorem InvS.at {B : Nat} {st : ASt} {l : Str} (h : InvS B st) (hl : l.length ≤ st.left.length) : InvS B (st.at l) := ⟨by have := h.n; show st.over + l.length + st.sets.length ≤ B; omega, h.s⟩
theorem InvS.pass {B : Nat} {st : ASt} {b : Bool} (h : st.over + 1 + st.left.length + st.sets.length ≤ B) (hs : SetsI B st.sets) : InvS B (st.pass b) := ⟨by
  cases b
  · exact h
  · show st.over + st.left.length + st.sets.length ≤ B; omega, hs⟩
structure Lq (B : Nat) (st s' : ASt) : Prop where
  left : s'.left.length ≤ st.left.length
  sum : s'.left.length + s'.sets.length ≤ st.left.length + st.sets.length
  s : SetsI B s'.sets
theorem Lq.refl {B : Nat} {st : ASt} (h : SetsI B st.sets) : Lq B st st := ⟨Nat.le_refl _, Nat.le_refl _, h⟩
theorem Lq.trans {B : Nat} {a b c : ASt} (h : Lq B a b) (k : Lq B b c) : Lq B a c := ⟨Nat.le_trans k.left h.left, Nat.le_trans k.sum h.sum, k.s⟩
theorem Lq.same {B : Nat} {a b c : ASt} (h : Lq B a b) (hl : c.left = b.left) (hs : c.sets = b.sets) : Lq B a c := ⟨by rw [hl]; exact h.left, by rw [hl, hs]; exact h.sum, by rw [hs]; exact h.s⟩
theorem Lq.of {B : Nat} {a b c : ASt} (h : Lq B b c) (hl : b.left = a.left) (hs : b.sets = a.sets) : Lq B a c := ⟨by rw [← hl]; exact h.left, by rw [← hl, ← hs]; exact h.sum, h.s⟩
theorem Lq.at {B : Nat} {a b : ASt} {l : Str} (h : Lq B a b) (hl : l.length ≤ b.left.length) : Lq B a (b.at l) := ⟨Nat.le_trans hl h.left, by have := h.sum; show l.length + b.sets.length ≤ _; omega, h.s⟩
theorem Lq.skip {B : Nat} {a b : ASt} (h : Lq B a b) : Lq B a b.skip := h.at (skip_len _)
theorem Lq.inv {B : Nat} {a b : ASt} (h : Lq B a b) (hI : InvS B a) (ho : b.over ≤ a.over) : InvS B b := ⟨by have := h.sum; have := hI.n; omega, h.s⟩
theorem look_in {B : Nat} {st : ASt} (h : SetsI B st.sets) {name : Str} {n : Int} (hl : lookS st.sets name = some n) : inI64 n := by
  unfold lookS at hl
  cases hf : st.sets.reverse.find? fun p => decide (p.1 = name) with
  | none => rw [hf] at hl; cases hl
  | some p =>
    rw [hf] at hl
    injection hl with hl
    subst hl
    exact (h p (List.mem_reverse.1 (List.mem_of_find?_eq_some hf))).2
theorem ask_ok {B : Nat} {look : Str → Int × Int} (hL : LookI look) {st : ASt} (h : SetsI B st.sets) (name : Str) : (askP look st name).2.over = st.over ∧ (askP look st name).2.left = st.left ∧ (askP look st name).2.sets = st.sets ∧ inI64 (askP look st name).1 := by
  unfold askP
  split
  · split
    · rename_i n hn
      exact ⟨rfl, rfl, rfl, look_in h hn⟩
    · exact ⟨rfl, rfl, rfl, hL name⟩
  · exact ⟨rfl, rfl, rfl, by unfold inI64; omega⟩
theorem does_ok (op : Str) {a b : Int} (st : ASt) (ha : inI64 a) (hb : inI64 b) : (doesP op a b st).2.over = st.over ∧ (doesP op a b st).2.left = st.left ∧ (doesP op a b st).2.sets = st.sets ∧ inI64 (doesP op a b st).1 := by
  unfold doesP
  split
  · exact ⟨rfl, rfl, rfl, doP_in op a b ha hb⟩
  · exact ⟨rfl, rfl, rfl, by unfold inI64; omega⟩
theorem next_len (l : Str) : (nextP l).length ≤ l.length := by
  unfold nextP
  split
  · exact Nat.le_refl _
  · exact Nat.le_refl _
  · split <;> simp
theorem asgn_pos {op : Str} (h : asgn op = true) : 1 ≤ op.length ∧ op.length ≤ 2 := by
  unfold asgn at h
  split at h <;> first | (cases h; done) | exact ⟨by decide, by decide⟩
theorem rank_pos {op : Str} (h : ¬ rankOf op = 0) : 1 ≤ op.length ∧ op.length ≤ 2 ∧ rankOf op ≤ 10 := by
  unfold rankOf at h ⊢
  split at h <;> first | (exact absurd rfl h) | exact ⟨by decide, by decide, by decide⟩
theorem cons_skip {s t : Str} {c : UInt8} (h : skipB s = c :: t) : t.length + 1 ≤ s.length := by
  have := skip_len s; rw [h] at this; exact this
theorem name_next {l : Str} {n : Nat} (h : ¬ n = 0) (hk : 1 ≤ (nextP (skipB (l.drop n))).length) : ((skipB (l.drop n)).drop (nextP (skipB (l.drop n))).length).length + 2 ≤ l.length := by
  have h1 := next_len (skipB (l.drop n))
  have h2 := skip_len (l.drop n)
  rw [List.length_drop] at h2
  rw [List.length_drop]
  omega
theorem push_ok {B : Nat} {st s : ASt} {name : Str} {v : Int} (h : Lq B st s) (hn : name.length ≤ B) (hv : inI64 v) (h1 : s.left.length + s.sets.length + 1 ≤ st.left.length + st.sets.length) : Lq B st (pushP s name v) ∧ (pushP s name v).over = s.over := by
  unfold pushP
  split
  · refine ⟨⟨h.left, by simp only [List.length_append, List.length_singleton]; omega, ?_⟩, rfl⟩
    intro p hp
    rcases List.mem_append.1 hp with hp | hp
    · exact h.s p hp
    · simp at hp; subst hp; exact ⟨hn, hv⟩
  · exact ⟨h, rfl⟩
end Go.Proofs.YtdlimikcgdgfpaaGreatDoor.A03
namespace Go.Proofs.YtdlimikcgdgfpaaGreatDoor.A03
open E Go.Lib
theorem valB_snoc {b : Nat} {c : UInt8} : ∀ {s : Str} {a : Nat}, valB b (s ++ [c]) a = (valB b s a).bind fun x => if digV c < b then some (x * b + digV c) else none
  | [], a => by simp [valB]
  | d :: s, a => by
    simp only [List.cons_append, valB]
    split
    · exact valB_snoc
    · rfl
theorem digc_all : (List.range 10).all (fun i => decide ((UInt8.ofNat (48 + i)).toNat = 48 + i) && decide (digV (UInt8.ofNat (48 + i)) = i)) = true := by decide +kernel
theorem digc {i : Nat} (h : i < 10) : (UInt8.ofNat (48 + i)).toNat = 48 + i ∧ digV (UInt8.ofNat (48 + i)) = i := by
  have := List.all_eq_true.1 digc_all i (List.mem_range.2 h)
  simpa using this
theorem valB_dec : ∀ (n u : Nat), u ≤ n → valB 10 (decDigits u) 0 = some u := by
  intro n
  induction n with
  | zero =>
    intro u hu
    have : u = 0 := by omega
    subst this
    rw [decDigits, dif_pos (by decide)]
    decide
  | succ n ih =>
    intro u hu
    rw [decDigits]
    split
    · rename_i h
      have := (digc h).2
      simp only [valB, this, if_pos h]
      simp
    · have h10 : u % 10 < 10 := Nat.mod_lt _ (by decide)
      rw [valB_snoc, ih (u / 10) (by omega), (digc h10).2]
      simp only [Option.bind_some, if_pos h10]
      congr 1
      omega
theorem dec_digs : ∀ (n u : Nat), u ≤ n → (∀ c, c ∈ decDigits u → 48 ≤ c.toNat ∧ c.toNat ≤ 57) ∧ (0 < u → ∀ c t, decDigits u = c :: t → ¬ c = 48) ∧ decDigits u ≠ [] := by
  intro n
  induction n with
  | zero =>
    intro u hu
    have : u = 0 := by omega
    subst this
    rw [decDigits, dif_pos (by decide)]
    exact ⟨by simp, fun h => absurd h (by decide), by simp⟩
  | succ n ih =>
    intro u hu
    rw [decDigits]
    split
    · rename_i h
      have hc := (digc h).1
      refine ⟨?_, ?_, by simp⟩
      · intro c hm
        simp only [List.mem_singleton] at hm
        subst hm
        omega
      · intro h0 c t e
        injection e with e _
        subst e
        intro e2
        rw [e2] at hc
        have : (48 : UInt8).toNat = 48 := rfl
        omega
    · have h10 : u % 10 < 10 := Nat.mod_lt _ (by decide)
      have hc := (digc h10).1
      have h1 := ih (u / 10) (by omega)
      refine ⟨?_, ?_, by simp⟩
      · intro c hm
        rcases List.mem_append.1 hm with hm | hm
        · exact h1.1 c hm
        · simp only [List.mem_singleton] at hm
          subst hm
          omega
      · intro h0 c t e
        cases hd : decDigits (u / 10) with
        | nil => exact absurd hd h1.2.2
        | cons d r =>
          rw [hd] at e
          injection e with e _
          subst e
          exact h1.2.1 (by omega) _ _ hd
theorem trim_id {s : Str} (h : ∀ c, c ∈ s → 45 ≤ c.toNat) : trimS s blk3 = s := by
  have hb : ∀ c : UInt8, 45 ≤ c.toNat → blk3.contains c = false := by
    intro c hc
    cases hh : blk3.contains c with
    | false => rfl
    | true =>
      simp at hh
      rcases hh with rfl | rfl | rfl <;> revert hc <;> decide
  have dw : ∀ l : Str, (∀ c, c ∈ l → 45 ≤ c.toNat) → l.dropWhile (fun c => blk3.contains c) = l := by
    intro l hl
    cases l with
    | nil => rfl
    | cons c t => rw [List.dropWhile_cons, hb c (hl c (by simp))]; rfl
  unfold trimS trimLeftS trimRightS
  rw [dw s.reverse (fun c hc => h c (List.mem_reverse.1 hc)), List.reverse_reverse, dw s h]
theorem numP_dec (u : Nat) : numP (decDigits u) = some u := by
  have h := dec_digs u u (Nat.le_refl _)
  have hv := valB_dec u u (Nat.le_refl _)
  match hd : decDigits u with
  | [] => exact absurd hd h.2.2
  | [c] => rw [hd] at hv; exact hv
  | c :: x :: t =>
    have hu : 0 < u := by
      by_cases h0 : u = 0
      · subst h0
        rw [decDigits, dif_pos (by decide)] at hd
        cases hd
      · omega
    have hc := h.2.1 hu _ _ hd
    have eL : numP (c :: x :: t) = (if c = 48 then (if (x = 120 ∨ x = 88) ∧ t ≠ [] then valB 16 t 0 else valB 8 (x :: t) 0) else valB 10 (c :: x :: t) 0) := rfl
    rw [eL, if_neg hc, ← hd]
    exact hv
theorem val_itoa {n : Int} (hn : inI64 n) : valueP (itoa n) = (n, 0) := by
  unfold inI64 at hn
  unfold itoa
  split
  · rename_i h
    have hd := dec_digs n.natAbs n.natAbs (Nat.le_refl _)
    have ht : trimS (45 :: decDigits n.natAbs) blk3 = 45 :: decDigits n.natAbs := trim_id fun c hc => by
      rcases List.mem_cons.1 hc with rfl | hc
      · decide
      · have := hd.1 c hc; omega
    unfold valueP
    rw [ht]
    simp only [or_true, if_true, numP_dec]
    rw [if_neg (by omega)]
    congr 1
    omega
  · rename_i h
    have hd := dec_digs n.toNat n.toNat (Nat.le_refl _)
    have hp := numP_dec n.toNat
    have ht : trimS (decDigits n.toNat) blk3 = decDigits n.toNat := trim_id fun c hc => by have := hd.1 c hc; omega
    unfold valueP
    rw [ht]
    cases hdd : decDigits n.toNat with
    | nil => exact absurd hdd hd.2.2
    | cons c t =>
      have hc := hd.1 c (by rw [hdd]; simp)
      have c1 : ¬ c = 43 := by rintro rfl; revert hc; decide
      have c2 : ¬ c = 45 := by rintro rfl; revert hc; decide
      rw [hdd] at hp
      simp only [c1, c2, or_self, if_false, hp]
      rw [if_neg (by omega)]
      congr 1
      omega
end Go.Proofs.YtdlimikcgdgfpaaGreatDoor.A03
namespace Go.Proofs.YtdlimikcgdgfpaaGreatDoor.A03
open Tryz renaming prog → PG
open E renaming preR → P1, postR → P2, w_join → P3, w_stop → P4, dsc → P5
open E Go.Lib
abbrev n3 : Str := [95, 43, 45]
def CleanN (s : Str) : Prop := ∀ c, c ∈ s → c.toNat < 128 ∧ c ∉ n3
theorem bs_at {s : Str} {i : Nat} (h : i < (bs s).size) (h2 : i < s.length) : (bs s)[i] = s[i] := by
  have := Go.Lib.data_getElem? (bs s) i h
  have e : (bs s).data.toList = s := by simp [bs]
  rw [e, List.getElem?_eq_getElem h2] at this
  exact (Option.some.inj this).symm
theorem nxtA_by {P : Program} {K : Value → AS → Prop} {σ : AS} {X : Ce} {R : List Ck} {q pos : Nat} {s : Str} {ty : TypeId} (h : Hs σ X (Oth q (.stringIter (bs s) pos) :: R)) (hdone : s.length ≤ pos → K (.tuple #[.bool false]) σ)
    (hnext : ∀ (r : Int) (pos' : Nat) σ', (hp : pos < s.length) → pos < pos' → 0 ≤ r → r ≤ 2147483647 → ((s[pos]).toNat < 128 → r = (s[pos]).toNat ∧ pos' = pos + 1) → Hs σ' X (Oth q (.stringIter (bs s) pos') :: R) → K (.tuple #[.bool true, .int .i64 pos, .int .i32 r]) σ') :
    kGen P (.nxt true ty) [.pointer (some ⟨q, 0, none⟩)] σ K := by
  have hm := h.oth
  intro w hw
  have hh : w.heap[q]? = some (.stringIter (bs s) pos) := hw.m q _ hm
  have hsz : (bs s).size = s.length := bs_size s
  by_cases hp : pos < (bs s).size
  · refine ⟨_, _, run_next_any_at w q (bs s) pos ty hh hp, ?_⟩
    have h1 : 1 ≤ (Utf8.decode (bs s) pos).2 := by
      by_cases ha : ((bs s)[pos]'hp).toNat < 128
      · rw [decode_ascii _ _ hp ha]; exact Nat.le_refl _
      · exact (decode_high _ _ hp (by omega)).2
    refine out_set hw hm (hnext _ (pos + (Utf8.decode (bs s) pos).2) _ (by omega) (by omega) (by omega) (by have := decode_le (bs s) pos; omega) (fun ha => ?_) ?_)
    · have hb : (bs s)[pos]'hp = s[pos]'(by omega) := bs_at hp (by omega)
      rw [← hb] at ha
      rw [decode_ascii _ _ hp ha]
      exact ⟨congrArg (fun c : UInt8 => (c.toNat : Int)) hb, rfl⟩
    exact h.putX
  · exact ⟨_, _, run_next_end_at w q (bs s) pos ty hh hp, Out.same hw (hdone (by omega))⟩
section
variable {σ σ' : AS} {X : Ce} {R : List Ck} {k : Value → AS → Prop} {s : Str} {c : UInt8} {i : Nat} {r : Int}
theorem runn_c (hr0 : 0 ≤ r) (hr1 : r ≤ 2147483647) (h : Hs σ X R) (hk : ∀ (n : Int) σ', (∀ c : UInt8, r = c.toNat → c.toNat < 128 → c ∉ n3 → n = -1) → Hs σ' X R → k (.int .i64 n) σ') : kCall PG 167 [.string (bs n3), .int .i32 r] σ k := by
  refine f167 ?_
  (try simp -dsimp (disch := first|exact P5|fail) only [↓P1,P2,↓P4,Q1,Q2,Q3,Q4,Q5,Q6,Q7,Q8,Q9, F167])
  by_cases hlt : r < 128
  · have hw : IntKind.u8.wrap r = ((UInt8.ofNat r.toNat).toNat : Int) := by
      rw [wrapU8 r hr0 (by omega)]
      simp
      omega
    (try simp -dsimp (disch := first|exact P5|fail) only [↓P1,P2,↓P4,Q1,Q2,Q3,Q4,Q5,Q6,Q7,Q8,Q9, hlt, hw])
    refine idx_c rfl ?_
    have hno : ∀ c : UInt8, r = c.toNat → c.toNat < 128 → c ∉ n3 → posB (UInt8.ofNat r.toNat) n3 = none := fun c e _ hc => pos_no fun x hx he => by
      have e2 : UInt8.ofNat r.toNat = c := by subst e; simp
      exact hc (by rw [← e2, ← he]; exact hx)
    cases hp : posB (UInt8.ofNat r.toNat) n3 with
    | none => (try simp -dsimp (disch := first|exact P5|fail) only [↓P1,P2,↓P4,Q1,Q2,Q3,Q4,Q5,Q6,Q7,Q8,Q9]); exact hk _ _ (fun _ _ _ _ => rfl) h
    | some n => (try simp -dsimp (disch := first|exact P5|fail) only [↓P1,P2,↓P4,Q1,Q2,Q3,Q4,Q5,Q6,Q7,Q8,Q9]); exact hk _ _ (fun c e h1 h2 => by have := hno c e h1 h2; rw [hp] at this; cases this) h
  have hbig : ∀ n : Int, ∀ c : UInt8, r = c.toNat → c.toNat < 128 → c ∉ n3 → n = -1 := fun n c e h1 _ => by omega
  by_cases he : r = 65533
  · (try simp -dsimp (disch := first|exact P5|fail) only [↓P1,P2,↓P4,Q1,Q2,Q3,Q4,Q5,Q6,Q7,Q8,Q9, hlt, he])
    refine join_now ?_
    (try simp -dsimp (disch := first|exact P5|fail) only [↓P1,P2,↓P4,Q1,Q2,Q3,Q4,Q5,Q6,Q7,Q8,Q9])
    refine rngS_by Tryz.underlying9 h fun s1 h1 => ?_
    generalize σ.n = q at h1 ⊢
    (try simp -dsimp (disch := first|exact P5|fail) only [↓P1,P2,↓P4,Q1,Q2,Q3,Q4,Q5,Q6,Q7,Q8,Q9])
    refine loop_inv (fun nn xs s2 => ∃ pos : Nat, Hs s2 X (Oth q (.stringIter (bs n3) pos) :: R) ∧ nn = n3.length - pos) _ ⟨0, h1, rfl⟩ ?_
    rintro _ _ s2 again ⟨pos, h2, rfl⟩ hag
    (try simp -dsimp (disch := first|exact P5|fail) only [↓P1,P2,↓P4,Q1,Q2,Q3,Q4,Q5,Q6,Q7,Q8,Q9])
    refine nxtS_by h2 (fun _ => ?_) (fun r' pos' s3 hp hp' h0' h1' h3 => ?_)
    · (try simp -dsimp (disch := first|exact P5|fail) only [↓P1,P2,↓P4,Q1,Q2,Q3,Q4,Q5,Q6,Q7,Q8,Q9])
      refine join_now ?_
      (try simp -dsimp (disch := first|exact P5|fail) only [↓P1,P2,↓P4,Q1,Q2,Q3,Q4,Q5,Q6,Q7,Q8,Q9])
      exact hk _ _ (hbig _) h2.drop
    · (try simp -dsimp (disch := first|exact P5|fail) only [↓P1,P2,↓P4,Q1,Q2,Q3,Q4,Q5,Q6,Q7,Q8,Q9])
      refine join_now ?_
      by_cases hr : r' = 65533
      · (try simp -dsimp (disch := first|exact P5|fail) only [↓P1,P2,↓P4,Q1,Q2,Q3,Q4,Q5,Q6,Q7,Q8,Q9, hr])
        exact hk _ _ (hbig _) h3.drop
      · (try simp -dsimp (disch := first|exact P5|fail) only [↓P1,P2,↓P4,Q1,Q2,Q3,Q4,Q5,Q6,Q7,Q8,Q9, hr])
        exact hag _ _ _ ⟨pos', h3, rfl⟩ (by omega)
  (try simp -dsimp (disch := first|exact P5|fail) only [↓P1,P2,↓P4,Q1,Q2,Q3,Q4,Q5,Q6,Q7,Q8,Q9, hlt, he])
  refine f218 ?_
  have hsplit : Utf8.valid r = (decide (r < 55296) || (decide (57344 ≤ r) && decide (r ≤ 1114111))) := by
    unfold Utf8.valid
    simp [hr0]
  by_cases hv : Utf8.valid r = true
  rotate_left
  · rw [hsplit] at hv
    simp at hv
    have v1 : ¬ r < 55296 := by omega
    have v2 : ¬ (57343 < r ∧ r ≤ 1114111) := by omega
    by_cases v3 : 57343 < r
    · have v4 : ¬ r ≤ 1114111 := by omega
      (try simp -dsimp (disch := first|exact P5|fail) only [↓P1,P2,↓P4,Q1,Q2,Q3,Q4,Q5,Q6,Q7,Q8,Q9, F218])
      refine join_now ?_
      (try simp -dsimp (disch := first|exact P5|fail) only [↓P1,P2,↓P4,Q1,Q2,Q3,Q4,Q5,Q6,Q7,Q8,Q9, v1, v3, v4])
      exact hk _ _ (hbig _) h
    · (try simp -dsimp (disch := first|exact P5|fail) only [↓P1,P2,↓P4,Q1,Q2,Q3,Q4,Q5,Q6,Q7,Q8,Q9, F218])
      refine join_now ?_
      (try simp -dsimp (disch := first|exact P5|fail) only [↓P1,P2,↓P4,Q1,Q2,Q3,Q4,Q5,Q6,Q7,Q8,Q9, v1, v3])
      exact hk _ _ (hbig _) h
  · have hv' := hv
    rw [hsplit] at hv'
    simp at hv'
    have go : ∀ k2 : Value → AS → Prop, k2 (.bool true) σ → F218 (.int .i32 r) σ k2 := by
      intro k2 hk2
      by_cases v1 : r < 55296
      · (try simp -dsimp (disch := first|exact P5|fail) only [↓P1,P2,↓P4,Q1,Q2,Q3,Q4,Q5,Q6,Q7,Q8,Q9, F218])
        refine join_now ?_
        (try simp -dsimp (disch := first|exact P5|fail) only [↓P1,P2,↓P4,Q1,Q2,Q3,Q4,Q5,Q6,Q7,Q8,Q9, v1])
        exact hk2
      · have v3 : 57343 < r := by omega
        have v4 : r ≤ 1114111 := by omega
        (try simp -dsimp (disch := first|exact P5|fail) only [↓P1,P2,↓P4,Q1,Q2,Q3,Q4,Q5,Q6,Q7,Q8,Q9, F218])
        refine join_now ?_
        (try simp -dsimp (disch := first|exact P5|fail) only [↓P1,P2,↓P4,Q1,Q2,Q3,Q4,Q5,Q6,Q7,Q8,Q9, v1, v3, v4])
        exact hk2
    refine go _ ?_
    (try simp -dsimp (disch := first|exact P5|fail) only [↓P1,P2,↓P4,Q1,Q2,Q3,Q4,Q5,Q6,Q7,Q8,Q9])
    refine cvr_by (by kernel_rfl) Tryz.underlying9 hv (by omega) fun l h2 h4 hlast => ?_
    obtain ⟨c, hc⟩ : ∃ c, l[l.length - 1]? = some c := ⟨_, List.getElem?_eq_getElem (by omega)⟩
    have hc1 := hlast c hc
    (try simp -dsimp (disch := first|exact P5|fail) only [↓P1,P2,↓P4,Q1,Q2,Q3,Q4,Q5,Q6,Q7,Q8,Q9])
    refine join_now ?_
    refine loop_inv (fun nn xs s2 => xs = [.int .i64 ((l.length - 1 : Nat) : Int), .int .i64 0] ∧ σ = s2 ∧ nn = 0) _ ⟨by
      have : ((l.length : Int) - 1) = ((l.length - 1 : Nat) : Int) := by omega
      rw [this], rfl, rfl⟩ ?_
    rintro _ _ s2 again ⟨rfl, rfl, rfl⟩ hag
    (try simp -dsimp (disch := first|exact P5|fail) only [↓P1,P2,↓P4,Q1,Q2,Q3,Q4,Q5,Q6,Q7,Q8,Q9])
    refine join_now ?_
    by_cases h3 : l.length - 1 < 3
    rotate_left
    · (try simp -dsimp (disch := first|exact P5|fail) only [↓P1,P2,↓P4,Q1,Q2,Q3,Q4,Q5,Q6,Q7,Q8,Q9])
      refine join_now ?_
      (try simp -dsimp (disch := first|exact P5|fail) only [↓P1,P2,↓P4,Q1,Q2,Q3,Q4,Q5,Q6,Q7,Q8,Q9])
      exact hk _ _ (hbig _) h
    have hlq : ((n3[l.length - 1]?).getD 0).toNat < 128 := by
      have : l.length - 1 = 0 ∨ l.length - 1 = 1 ∨ l.length - 1 = 2 := by omega
      rcases this with e | e | e <;> rw [e] <;> decide
    have hcd : (l[l.length - 1]?).getD 0 = c := by rw [hc]; rfl
    have hne : ¬ (((n3[l.length - 1]?).getD 0).toNat : Int) = (((l[l.length - 1]?).getD 0).toNat : Int) := by rw [hcd]; omega
    have e1 : ((l.length : Int) - 1) = ((l.length - 1 : Nat) : Int) := by omega
    (try simp -dsimp (disch := first|exact P5|fail) only [↓P1,P2,↓P4,Q1,Q2,Q3,Q4,Q5,Q6,Q7,Q8,Q9, e1])
    refine join_by fun J hJ => ?_
    (try simp -dsimp (disch := first|exact P5|fail) only [↓P1,P2,↓P4,Q1,Q2,Q3,Q4,Q5,Q6,Q7,Q8,Q9, e1, hne, hcd])
    refine idx_c rfl ?_
    rw [pos_no fun x hx => by
      have hx := List.mem_of_mem_drop (List.mem_of_mem_take hx)
      simp at hx
      rintro rfl
      rcases hx with e | e <;> rw [e] at hc1 <;> revert hc1 <;> decide]
    (try simp -dsimp (disch := first|exact P5|fail) only [↓P1,P2,↓P4,Q1,Q2,Q3,Q4,Q5,Q6,Q7,Q8,Q9])
    refine join_now ?_
    (try simp -dsimp (disch := first|exact P5|fail) only [↓P1,P2,↓P4,Q1,Q2,Q3,Q4,Q5,Q6,Q7,Q8,Q9])
    exact hk _ _ (hbig _) h
theorem mkn_c (h : Hs σ X R) (hk : ∀ (L : List Value) σ', L.length = 256 → L.all okCell = true → (∀ v, v ∈ L → ∃ b, v = .bool b) → (∀ c : UInt8, c ∉ n3 → L[c.toNat]? = some (.bool false)) → Hs σ' X R → k (.tuple #[.agg L.toArray, .bool true]) σ') : kCall PG 98 [.string (bs n3)] σ k := by
  refine f98 ?_
  obtain ⟨Z, hZ⟩ : ∃ Z, Z = List.replicate 256 (Value.bool false) := ⟨_, rfl⟩
  have z1 : Z.length = 256 := by rw [hZ]; simp
  have z2 : Z.all okCell = true := by rw [hZ]; decide
  have z3 : ∀ v, v ∈ Z → ∃ b, v = .bool b := by rw [hZ]; intro v hv; exact ⟨false, List.eq_of_mem_replicate hv⟩
  have z4 : ∀ c : UInt8, c ∉ n3 → Z[c.toNat]? = some (.bool false) := by
    rw [hZ]; intro c _; rw [List.getElem?_replicate_of_lt c.toNat_lt]
  unfold F98
  rw [← hZ]
  clear hZ
  have h1 := h.new (cs := Z)
  (try simp -dsimp (disch := first|exact P5|fail) only [↓P1,P2,↓P4,Q1,Q2,Q3,Q4,Q5,Q6,Q7,Q8,Q9])
  generalize AS.new σ _ = s1 at h1 ⊢
  generalize σ.n = q at h1 ⊢
  refine join_by fun J hJ => ?_
  have tail : ∀ (s2 : AS) (L : List Value), L.length = 256 → L.all okCell = true → (∀ v, v ∈ L → ∃ b, v = .bool b) → (∀ c : UInt8, c ∉ n3 → L[c.toNat]? = some (.bool false)) → Hs s2 X (Cel q L :: R) → J [] s2 := by
    intro s2 L l1 l2 l3 l4 h2
    have e1 : ∀ s3 : AS, s3.m q = some (.cells L) → ldNS s3 256 (.pointer (some ⟨q, 0, none⟩)) = some (.agg L.toArray) := by
      intro s3 hm
      rw [ldN_p, ldsM hm 256 0 (by omega), List.drop_zero, List.take_of_length_le (by omega)]
      rfl
    have e2 : stS s2 256 (.pointer (some ⟨q, 0, none⟩)) (.agg L.toArray) = some (s2.put q (.cells L)) := by
      rw [st_p, h2.obj, stN _ _ _ _ _ l1 l2, if_pos (by omega), List.take_zero, List.nil_append, List.drop_of_length_le (by omega), List.append_nil]
    have h3 := h2.put (cs' := L)
    have e3 := e1 _ h2.obj
    have e4 := e1 _ h3.obj
    refine hJ _ _ ?_
    (try simp -dsimp (disch := first|exact P5|fail) only [↓P1,P2,↓P4,Q1,Q2,Q3,Q4,Q5,Q6,Q7,Q8,Q9, ↓e3, ↓e2, ↓e4])
    exact hk L _ l1 l2 l3 l4 h3.drop
  clear hJ
  (try simp -dsimp (disch := first|exact P5|fail) only [↓P1,P2,↓P4,Q1,Q2,Q3,Q4,Q5,Q6,Q7,Q8,Q9])
  refine loop_inv (fun nn xs s2 => ∃ (j : Nat) (L : List Value), xs = [.int .i64 j] ∧ j ≤ 3 ∧ L.length = 256 ∧ L.all okCell = true ∧ (∀ v, v ∈ L → ∃ b, v = .bool b) ∧ (∀ c : UInt8, c ∉ n3 → L[c.toNat]? = some (.bool false)) ∧ Hs s2 X (Cel q L :: R) ∧ nn = 3 - j) _ ⟨0, Z, rfl, by omega, z1, z2, z3, z4, h1, rfl⟩ ?_
  rintro _ _ s2 again ⟨j, L, rfl, hj, l1, l2, l3, l4, h2, rfl⟩ hag
  (try simp -dsimp (disch := first|exact P5|fail) only [↓P1,P2,↓P4,Q1,Q2,Q3,Q4,Q5,Q6,Q7,Q8,Q9])
  refine join_now ?_
  by_cases hlt : j < 3
  · obtain ⟨c, hc⟩ : ∃ c, (n3[j]?).getD 0 = c := ⟨_, rfl⟩
    have hc1 : c.toNat < 128 := by
      have : j = 0 ∨ j = 1 ∨ j = 2 := by omega
      rw [← hc]
      rcases this with e | e | e <;> rw [e] <;> decide
    (try simp -dsimp (disch := first|exact P5|fail) only [↓P1,P2,↓P4,Q1,Q2,Q3,Q4,Q5,Q6,Q7,Q8,Q9])
    refine join_now ?_
    (try simp -dsimp (disch := first|exact P5|fail) only [↓P1,P2,↓P4,Q1,Q2,Q3,Q4,Q5,Q6,Q7,Q8,Q9, hc])
    refine join_now ?_
    (try simp -dsimp (disch := first|exact P5|fail) only [↓P1,P2,↓P4,Q1,Q2,Q3,Q4,Q5,Q6,Q7,Q8,Q9, hc, h2.obj])
    refine hag _ _ _ ⟨j + 1, L.set c.toNat (.bool true), rfl, hlt, by simp [l1], ?_, fun v hv => ?_, fun c' hc' => ?_, h2.put, rfl⟩ (by omega)
    · rw [List.all_eq_true] at l2 ⊢
      intro v hv
      rcases List.mem_or_eq_of_mem_set hv with hv | rfl
      · exact l2 v hv
      · rfl
    · rcases List.mem_or_eq_of_mem_set hv with hv | rfl
      · exact l3 v hv
      · exact ⟨_, rfl⟩
    · have hcm : c ∈ n3 := by
        rw [← hc, List.getElem?_eq_getElem (show j < n3.length from hlt)]
        exact List.getElem_mem _
      have hne : ¬ c.toNat = c'.toNat := fun e => hc' (by rw [← UInt8.toNat_inj.1 e]; exact hcm)
      rw [List.getElem?_set_ne hne]
      exact l4 c' hc'
  · (try simp -dsimp (disch := first|exact P5|fail) only [↓P1,P2,↓P4,Q1,Q2,Q3,Q4,Q5,Q6,Q7,Q8,Q9])
    exact tail s2 L l1 l2 l3 l4 h2
theorem anyn_c (hs : s.length ≤ 1000000) (h : Hs σ X R) (hk : ∀ b σ', (CleanN s → b = false) → Hs σ' X R → k (.bool b) σ') : kCall PG 289 [.string (bs s), .string (bs n3)] σ k := by
  refine f289 ?_
  (try simp -dsimp (disch := first|exact P5|fail) only [↓P1,P2,↓P4,Q1,Q2,Q3,Q4,Q5,Q6,Q7,Q8,Q9, F289])
  suffices H : ∀ k2 : Value → AS → Prop, (∀ (n : Int) σ', (CleanN s → n = -1) → Hs σ' X R → k2 (.int .i64 n) σ') → kCall PG 305 [.string (bs s), .string (bs n3)] σ k2 by
    refine H _ fun n σ' hx h' => ?_
    by_cases hn : 0 ≤ n
    · (try simp -dsimp (disch := first|exact P5|fail) only [↓P1,P2,↓P4,Q1,Q2,Q3,Q4,Q5,Q6,Q7,Q8,Q9, hn]); exact hk _ _ (fun hc => by have := hx hc; omega) h'
    · (try simp -dsimp (disch := first|exact P5|fail) only [↓P1,P2,↓P4,Q1,Q2,Q3,Q4,Q5,Q6,Q7,Q8,Q9, hn]); exact hk _ _ (fun _ => rfl) h'
  clear hk
  intro k2 hk
  refine f305 ?_
  have hq0 : (n3 = []) = False := by simp
  (try simp -dsimp (disch := first|exact P5|fail) only [↓P1,P2,↓P4,Q1,Q2,Q3,Q4,Q5,Q6,Q7,Q8,Q9, F305])
  refine join_now ?_
  (try simp -dsimp (disch := first|exact P5|fail) only [↓P1,P2,↓P4,Q1,Q2,Q3,Q4,Q5,Q6,Q7,Q8,Q9, hq0])
  refine join_now ?_
  (try simp -dsimp (disch := first|exact P5|fail) only [↓P1,P2,↓P4,Q1,Q2,Q3,Q4,Q5,Q6,Q7,Q8,Q9])
  refine join_by fun J3 hJ3 => ?_
  have short : J3 [] σ := by
    refine hJ3 _ _ ?_
    clear hJ3
    (try simp -dsimp (disch := first|exact P5|fail) only [↓P1,P2,↓P4,Q1,Q2,Q3,Q4,Q5,Q6,Q7,Q8,Q9])
    refine join_now ?_
    (try simp -dsimp (disch := first|exact P5|fail) only [↓P1,P2,↓P4,Q1,Q2,Q3,Q4,Q5,Q6,Q7,Q8,Q9])
    refine rngS_by Tryz.underlying9 h fun s1 h1 => ?_
    generalize σ.n = q at h1 ⊢
    (try simp -dsimp (disch := first|exact P5|fail) only [↓P1,P2,↓P4,Q1,Q2,Q3,Q4,Q5,Q6,Q7,Q8,Q9])
    refine loop_inv (fun nn xs s2 => ∃ pos : Nat, Hs s2 X (Oth q (.stringIter (bs s) pos) :: R) ∧ nn = s.length - pos) _ ⟨0, h1, rfl⟩ ?_
    rintro _ _ s2 again ⟨pos, h2, rfl⟩ hag
    (try simp -dsimp (disch := first|exact P5|fail) only [↓P1,P2,↓P4,Q1,Q2,Q3,Q4,Q5,Q6,Q7,Q8,Q9])
    refine nxtA_by h2 (fun _ => ?_) (fun r' pos' s3 hp hp' h0' h1' ha h3 => ?_)
    · (try simp -dsimp (disch := first|exact P5|fail) only [↓P1,P2,↓P4,Q1,Q2,Q3,Q4,Q5,Q6,Q7,Q8,Q9])
      refine join_now ?_
      (try simp -dsimp (disch := first|exact P5|fail) only [↓P1,P2,↓P4,Q1,Q2,Q3,Q4,Q5,Q6,Q7,Q8,Q9])
      exact hk _ _ (fun _ => rfl) h2.drop
    · (try simp -dsimp (disch := first|exact P5|fail) only [↓P1,P2,↓P4,Q1,Q2,Q3,Q4,Q5,Q6,Q7,Q8,Q9])
      refine join_now ?_
      (try simp -dsimp (disch := first|exact P5|fail) only [↓P1,P2,↓P4,Q1,Q2,Q3,Q4,Q5,Q6,Q7,Q8,Q9])
      refine runn_c h0' h1' h3 fun n s4 hx h4 => ?_
      have hx' : CleanN s → n = -1 := fun hc => by
        have h5 := hc _ (List.getElem_mem hp)
        exact hx _ (ha h5.1).1 h5.1 h5.2
      by_cases hn : 0 ≤ n
      · (try simp -dsimp (disch := first|exact P5|fail) only [↓P1,P2,↓P4,Q1,Q2,Q3,Q4,Q5,Q6,Q7,Q8,Q9, hn])
        exact hk _ _ (fun hc => by have := hx' hc; omega) h4.drop
      · (try simp -dsimp (disch := first|exact P5|fail) only [↓P1,P2,↓P4,Q1,Q2,Q3,Q4,Q5,Q6,Q7,Q8,Q9, hn])
        exact hag _ _ _ ⟨pos', h4, rfl⟩ (by omega)
  clear hJ3
  (try simp -dsimp (disch := first|exact P5|fail) only [↓P1,P2,↓P4,Q1,Q2,Q3,Q4,Q5,Q6,Q7,Q8,Q9])
  refine f311 ?_
  by_cases h8 : 8 < s.length
  rotate_left
  · (try simp -dsimp (disch := first|exact P5|fail) only [↓P1,P2,↓P4,Q1,Q2,Q3,Q4,Q5,Q6,Q7,Q8,Q9, F311])
    exact short
  (try simp -dsimp (disch := first|exact P5|fail) only [↓P1,P2,↓P4,Q1,Q2,Q3,Q4,Q5,Q6,Q7,Q8,Q9, F311])
  refine mkn_c h fun L s1 l1 l2 l3 l4 h1 => ?_
  (try simp -dsimp (disch := first|exact P5|fail) only [↓P1,P2,↓P4,Q1,Q2,Q3,Q4,Q5,Q6,Q7,Q8,Q9])
  have h2 : Hs _ X (Cel s1.n (L ++ List.drop 256 (List.replicate 256 (Value.bool false))) :: R) := (h1.new (cs := List.replicate 256 (Value.bool false))).put
  generalize AS.put _ _ _ = s2 at h2 ⊢
  generalize s1.n = q at h2 ⊢
  refine join_now ?_
  refine loop_inv (fun nn xs s3 => ∃ j : Nat, xs = [.int .i64 j] ∧ s2 = s3 ∧ j ≤ s.length ∧ nn = s.length - j) _ ⟨0, rfl, rfl, Nat.zero_le _, rfl⟩ ?_
  rintro _ _ s3 again ⟨j, rfl, rfl, hj, rfl⟩ hag
  (try simp -dsimp (disch := first|exact P5|fail) only [↓P1,P2,↓P4,Q1,Q2,Q3,Q4,Q5,Q6,Q7,Q8,Q9])
  refine join_now ?_
  by_cases hlt : j < s.length
  rotate_left
  · (try simp -dsimp (disch := first|exact P5|fail) only [↓P1,P2,↓P4,Q1,Q2,Q3,Q4,Q5,Q6,Q7,Q8,Q9])
    exact hk _ _ (fun _ => rfl) h2.drop
  have hc := (s[j]).toNat_lt
  obtain ⟨b, hb⟩ := l3 _ (List.getElem_mem (show (s[j]).toNat < L.length by omega))
  have hload : (L ++ List.drop 256 (List.replicate 256 (Value.bool false)))[(s[j]).toNat]? = some (.bool b) := by
    rw [List.getElem?_append_left (by omega), List.getElem?_eq_getElem (by omega), hb]
  (try simp -dsimp (disch := first|exact P5|fail) only [↓P1,P2,↓P4,Q1,Q2,Q3,Q4,Q5,Q6,Q7,Q8,Q9])
  refine join_now ?_
  (try simp -dsimp (disch := first|exact P5|fail) only [↓P1,P2,↓P4,Q1,Q2,Q3,Q4,Q5,Q6,Q7,Q8,Q9, getd hlt])
  refine f129 ?_
  (try simp -dsimp (disch := first|exact P5|fail) only [↓P1,P2,↓P4,Q1,Q2,Q3,Q4,Q5,Q6,Q7,Q8,Q9, F129, h2.obj, hload])
  cases b with
  | true =>
    (try simp -dsimp (disch := first|exact P5|fail) only [↓P1,P2,↓P4,Q1,Q2,Q3,Q4,Q5,Q6,Q7,Q8,Q9])
    exact hk _ _ (fun hc => by
      have h5 := l4 _ (hc _ (List.getElem_mem hlt)).2
      rw [List.getElem?_eq_getElem (show (s[j]).toNat < L.length by omega), hb] at h5
      cases h5) h2.drop
  | false =>
    (try simp -dsimp (disch := first|exact P5|fail) only [↓P1,P2,↓P4,Q1,Q2,Q3,Q4,Q5,Q6,Q7,Q8,Q9])
    exact hag _ _ _ ⟨j + 1, rfl, rfl, hlt, rfl⟩ (by omega)
end
end Go.Proofs.YtdlimikcgdgfpaaGreatDoor.A03
namespace Go.Proofs.YtdlimikcgdgfpaaGreatDoor.E
open Tryz renaming prog → PG
open E renaming preR → P1, postR → P2, w_join → P3, w_stop → P4, dsc → P5
open Go.RowKit
def AS.row (σ : AS) (l : List Value) : AS := ⟨σ.m, fun b o => if b = σ.n then l[o]? else σ.c b o, σ.n + 1, fun g h => by have := σ.wm g h; omega, fun b o h => by
  by_cases e : b = σ.n
  · subst e
    refine ⟨by omega, ?_⟩
    cases hm : σ.m σ.n with
    | none => rfl
    | some ob => have := σ.wm σ.n (by rw [hm]; simp); omega
  · rw [if_neg e] at h
    have := σ.wc b o h
    exact ⟨by omega, this.2⟩⟩
section
variable {P : Program} {K : Value → AS → Prop} {σ : AS} {X : Ce} {R : List Ck} {t u e : TypeId} {s : List UInt8} {L : List Value}
theorem row_c (i : Nat) : (σ.row L).c σ.n i = L[i]? := by
  show (if σ.n = σ.n then L[i]? else _) = _
  rw [if_pos rfl]
theorem row_m : (σ.row L).m σ.n = none := by
  cases hm : σ.m σ.n with
  | none => exact hm
  | some ob => have := σ.wm σ.n (by rw [hm]; simp); omega
theorem Hs.row (h : Hs σ X R) : Hs (σ.row L) X R := by
  refine ⟨fun b o v hv => ?_, h.s.frame (Ce.le_refl _) (fun g _ _ => rfl) (fun g hg => .inl hg)⟩
  have h1 := h.x b o v hv
  have hb : b < σ.n := inX_lt h.x ⟨o, by rw [hv]; simp⟩
  have e : (σ.row L).ld b o = σ.ld b o := by
    have ec : (σ.row L).c b o = σ.c b o := by
      show (if b = σ.n then L[o]? else σ.c b o) = _
      rw [if_neg (by omega)]
    unfold AS.ld
    rw [ec]
    rfl
  rw [e]
  exact h1
theorem cvs_by (h : Hs σ X R) (hs : P.underlying t = some .string) (hd : P.underlying u = some (.slice e)) (he : P.underlying e = some (.int .u8))
    (hk : ∀ c, K (.slice (some ⟨σ.n, 0, none⟩) s.length c) (σ.row (s.map fun b => .int .u8 b.toNat))) : kGen P (.cv t u) [.string (bs s)] σ K := by
  intro w hw
  have hsz : (bs s).size = s.length := bs_size s
  have hn : w.heap.size = σ.n := hw.sz
  have hb : Below w.heap.size w (Go.Lib.bytesWorld w e (bs s)) := Go.Lib.bytesWorld_below _ _ _
  have hS := hw.below hb
  refine ⟨_, _, Go.Lib.run_convert_string_bytes w t u e (bs s) hs hd he, KeepP.ofBelow hb, σ.row (s.map fun b => .int .u8 b.toNat), ⟨?_, hS.m, fun b o v hv => ?_⟩, ⟨?_, fun g hg => .inl hg⟩, ?_⟩
  · show (Go.Lib.bytesWorld w e (bs s)).heap.size = σ.n + 1
    rw [Go.Lib.bytesWorld_size, hn]
  · by_cases hbn : b = σ.n
    · subst hbn
      rw [row_c] at hv
      simp only [List.getElem?_map, Option.map_eq_some_iff] at hv
      obtain ⟨a, ha, rfl⟩ := hv
      have hl := (List.getElem?_eq_some_iff.1 ha).1
      rw [← hn, Go.Lib.bytesWorld_cell w e (bs s) o (by omega)]
      have e1 : (bs s).data.toList = s := by simp [bs]
      rw [e1, List.getD_eq_getElem?_getD, ha]
      rfl
    · refine hS.c b o v ?_
      show σ.c b o = some v
      rw [← hv]
      show _ = if b = σ.n then _ else _
      rw [if_neg hbn]
  · show σ.n ≤ σ.n + 1; omega
  · rw [hsz, hn]
    exact hk _
end
end Go.Proofs.YtdlimikcgdgfpaaGreatDoor.E
namespace Go.Proofs.YtdlimikcgdgfpaaGreatDoor.A03
open Tryz renaming prog → PG
open E renaming preR → P1, postR → P2, w_join → P3, w_stop → P4, dsc → P5
open E Go.Lib
def digK (c : UInt8) : Nat := if 48 ≤ c.toNat ∧ c.toNat ≤ 57 then c.toNat - 48 else if 97 ≤ orV c ∧ orV c ≤ 122 then (orV c - 87).toNat else 99
theorem digK_all : (List.range 256).all (fun i => decide (min (digK (UInt8.ofNat i)) 16 = min (digV (UInt8.ofNat i)) 16) && decide (0 ≤ orV (UInt8.ofNat i)) && decide (orV (UInt8.ofNat i) ≤ 255)) = true := by decide +kernel
theorem digK_at (c : UInt8) : min (digK c) 16 = min (digV c) 16 ∧ 0 ≤ orV c ∧ orV c ≤ 255 := by
  have h := List.all_eq_true.1 digK_all c.toNat (List.mem_range.2 c.toNat_lt)
  simp only [UInt8.ofNat_toNat, Bool.and_eq_true, decide_eq_true_eq] at h
  exact ⟨h.1.1, h.1.2, h.2⟩
theorem digK_lt {c : UInt8} {b : Nat} (hb : b ≤ 16) : (digK c < b ↔ digV c < b) ∧ (digV c < b → digK c = digV c) := by
  have := (digK_at c).1
  omega
theorem valB_ge {b : Nat} (hb : 1 ≤ b) : ∀ {s : Str} {a n : Nat}, valB b s a = some n → a ≤ n
  | [], a, n, h => by simp only [valB, Option.some.injEq] at h; omega
  | c :: t, a, n, h => by
    simp only [valB] at h
    split at h
    · have h1 := valB_ge hb h
      have : a * 1 ≤ a * b := Nat.mul_le_mul_left a hb
      omega
    · cases h
def PuR (base : Int) (s : Str) (v : Int) (e : Value) : Prop :=
  (∃ n : Nat, s ≠ [] ∧ valB base.toNat s 0 = some n ∧ n < 18446744073709551616 ∧ v = n ∧ e = .nilIface) ∨
  ((∃ x : Int, (x = 1 ∨ x = 2) ∧ e = .iface 334 (.int .i64 x)) ∧ (s = [] ∨ ∀ n, valB base.toNat s 0 = some n → 18446744073709551616 ≤ n) ∧ 0 ≤ v ∧ v ≤ 18446744073709551615)
theorem wrapU64 (n : Int) (h1 : 0 ≤ n) (h2 : n ≤ 18446744073709551615) : IntKind.u64.wrap n = n := by
  simp [IntKind.wrap, IntKind.bits, IntKind.signed]; omega
section
variable {σ σ' : AS} {X : Ce} {R : List Ck} {k : Value → AS → Prop} {s : Str} {base : Int}
theorem lower_c {c : UInt8} (hk : k (.int .u8 (orV c)) σ) : kCall PG 312 [.int .u8 c.toNat] σ k := by
  refine f312 ?_
  (simp -dsimp (disch := first|exact P5|fail) only [↓P1,P2,↓P3,Q1,Q2,Q3,Q4,Q5,Q6,Q7,Q8,Q9, F312, or32])
  exact hk
theorem pu_c (hb : base = 8 ∨ base = 10 ∨ base = 16) (hs : s.length ≤ 1000000) (h : Hs σ X R) (hk : ∀ v e σ', PuR base s v e → Hs σ' X R → k (.tuple #[.int .u64 v, e]) σ') :
    kCall PG 306 [.string (bs s), .int .i64 base, .int .i64 64] σ k := by
  refine f306 ?_
  have b0 : ¬ base = 0 := by omega
  have b2 : 2 ≤ base := by omega
  have b36 : base ≤ 36 := by omega
  have b16 : base ≤ 16 := by omega
  have w1 : IntKind.u64.wrap base = base := wrapU64 _ (by omega) (by omega)
  have w2 : IntKind.u8.wrap base = base := wrapU8 _ (by omega) (by omega)
  have bad : ∀ (x : Int) (v : Int) σ', (x = 1 ∨ x = 2) → (s = [] ∨ ∀ n, valB base.toNat s 0 = some n → 18446744073709551616 ≤ n) → 0 ≤ v → v ≤ 18446744073709551615 → Hs σ' X R → k (.tuple #[.int .u64 v, .iface 334 (.int .i64 x)]) σ' :=
    fun x v σ' hx hn h1 h2 h3 => hk _ _ _ (.inr ⟨⟨x, hx, rfl⟩, hn, h1, h2⟩) h3
  have cc : PG.concrete 334 = true := by kernel_rfl
  by_cases h0 : s = []
  · subst h0
    (try simp -dsimp (disch := first|exact P5|fail) only [↓P1,P2,↓P4,Q1,Q2,Q3,Q4,Q5,Q6,Q7,Q8,Q9, F306])
    refine join_now ?_
    (try simp -dsimp (disch := first|exact P5|fail) only [↓P1,P2,↓P4,Q1,Q2,Q3,Q4,Q5,Q6,Q7,Q8,Q9])
    refine mki_by cc ?_
    (try simp -dsimp (disch := first|exact P5|fail) only [↓P1,P2,↓P4,Q1,Q2,Q3,Q4,Q5,Q6,Q7,Q8,Q9])
    exact bad 2 0 σ (.inr rfl) (.inl rfl) (by decide) (by decide) h
  (try simp -dsimp (disch := first|exact P5|fail) only [↓P1,P2,↓P4,Q1,Q2,Q3,Q4,Q5,Q6,Q7,Q8,Q9, F306, b0])
  refine join_now ?_
  (try simp -dsimp (disch := first|exact P5|fail) only [↓P1,P2,↓P4,Q1,Q2,Q3,Q4,Q5,Q6,Q7,Q8,Q9, h0, b0])
  refine join_now ?_
  (try simp -dsimp (disch := first|exact P5|fail) only [↓P1,P2,↓P4,Q1,Q2,Q3,Q4,Q5,Q6,Q7,Q8,Q9, b2, b36])
  refine join_now ?_
  (try simp -dsimp (disch := first|exact P5|fail) only [↓P1,P2,↓P4,Q1,Q2,Q3,Q4,Q5,Q6,Q7,Q8,Q9])
  refine join_by fun J4 hJ4 => ?_
  have tail : ∀ cut : Nat, (∀ a : Nat, a < cut → (a : Int) * base ≤ 18446744073709551615) → (∀ a : Nat, cut ≤ a → 18446744073709551616 ≤ (a : Int) * base) → J4 [.int .u64 cut] σ := by
    intro cut c1cut c2
    refine hJ4 _ _ ?_
    clear hJ4
    have w64 : IntKind.u64.wrap 64 = 64 := wrapU64 _ (by decide) (by decide)
    have hsf : sftV .shl (.int .u64 1) (.int .u64 64) = some (.int .u64 0) := by kernel_rfl
    have hsb : binV .sub (.int .u64 0) (.int .u64 1) = some (.int .u64 18446744073709551615) := by kernel_rfl
    (try simp -dsimp (disch := first|exact P5|fail) only [↓P1,P2,↓P4,Q1,Q2,Q3,Q4,Q5,Q6,Q7,Q8,Q9, w1, w64, hsf, hsb])
    refine join_by fun J5 hJ5 => ?_
    have fin : ∀ (a : Nat) σ', a < 18446744073709551616 → valB base.toNat s 0 = some a → Hs σ' X R → J5 [.bool false, .int .u64 a] σ' := by
      intro a σ' ha hv h1
      refine hJ5 _ _ ?_
      clear hJ5
      (try simp -dsimp (disch := first|exact P5|fail) only [↓P1,P2,↓P4,Q1,Q2,Q3,Q4,Q5,Q6,Q7,Q8,Q9])
      refine join_now ?_
      (try simp -dsimp (disch := first|exact P5|fail) only [↓P1,P2,↓P4,Q1,Q2,Q3,Q4,Q5,Q6,Q7,Q8,Q9])
      exact hk _ _ _ (.inl ⟨a, h0, hv, ha, rfl, rfl⟩) h1
    clear hJ5
    refine cvs_by h (e := 5) (by kernel_rfl) (by kernel_rfl) (by kernel_rfl) fun cp => ?_
    have h1 := h.row (L := s.map fun b => .int .u8 b.toNat)
    have c1 : ∀ j (hj : j < s.length), (σ.row (s.map fun b => .int .u8 b.toNat)).c σ.n j = some (.int .u8 (s[j]).toNat) := by
      intro j hj
      rw [row_c, List.getElem?_map, List.getElem?_eq_getElem hj]
      rfl
    have m1 := row_m (σ := σ) (L := s.map fun b => .int .u8 b.toNat)
    generalize AS.row σ _ = s1 at h1 c1 m1 ⊢
    generalize σ.n = g at c1 m1 ⊢
    (try simp -dsimp (disch := first|exact P5|fail) only [↓P1,P2,↓P4,Q1,Q2,Q3,Q4,Q5,Q6,Q7,Q8,Q9])
    refine loop_inv (fun nn xs s2 => ∃ (a j : Nat), xs = [.bool false, .int .u64 a, .int .i64 j] ∧ s1 = s2 ∧ j ≤ s.length ∧ a < 18446744073709551616 ∧ valB base.toNat s 0 = valB base.toNat (s.drop j) a ∧ nn = s.length - j) _ ⟨0, 0, rfl, rfl, Nat.zero_le _, by decide, rfl, rfl⟩ ?_
    rintro _ _ s2 again ⟨a, j, rfl, rfl, hj, ha, hv, rfl⟩ hag
    (try simp -dsimp (disch := first|exact P5|fail) only [↓P1,P2,↓P4,Q1,Q2,Q3,Q4,Q5,Q6,Q7,Q8,Q9])
    refine join_now ?_
    by_cases hlt : j < s.length
    rotate_left
    · (try simp -dsimp (disch := first|exact P5|fail) only [↓P1,P2,↓P4,Q1,Q2,Q3,Q4,Q5,Q6,Q7,Q8,Q9])
      rw [List.drop_of_length_le (by omega)] at hv
      exact fin a _ ha hv h1
    rw [List.drop_eq_getElem_cons hlt] at hv
    simp only [valB] at hv
    have cj := c1 j hlt
    generalize s[j] = c at cj hv
    (try simp -dsimp (disch := first|exact P5|fail) only [↓P1,P2,↓P4,Q1,Q2,Q3,Q4,Q5,Q6,Q7,Q8,Q9])
    refine join_now ?_
    (try simp -dsimp (disch := first|exact P5|fail) only [↓P1,P2,↓P4,Q1,Q2,Q3,Q4,Q5,Q6,Q7,Q8,Q9, cj, m1])
    refine join_by fun J10 hJ10 => ?_
    have bN : base.toNat ≤ 16 := by omega
    have bE : ((base.toNat : Nat) : Int) = base := by omega
    have bN1 : 1 ≤ base.toNat := by omega
    have step : ∀ d : Nat, digK c = d → d ≤ 255 → J10 [.bool false, .int .u8 d] s1 := by
      intro d hd hd2
      have hdl := digK_lt (c := c) bN
      rw [hd] at hdl
      refine hJ10 _ _ ?_
      clear hJ10
      by_cases hdb : base ≤ (d : Int)
      · have hno : ¬ digV c < base.toNat := fun h5 => by have := hdl.1.2 h5; omega
        rw [if_neg hno] at hv
        (try simp -dsimp (disch := first|exact P5|fail) only [↓P1,P2,↓P4,Q1,Q2,Q3,Q4,Q5,Q6,Q7,Q8,Q9, w2])
        refine join_now ?_
        (try simp -dsimp (disch := first|exact P5|fail) only [↓P1,P2,↓P4,Q1,Q2,Q3,Q4,Q5,Q6,Q7,Q8,Q9, w2, hdb])
        refine mki_by cc ?_
        (try simp -dsimp (disch := first|exact P5|fail) only [↓P1,P2,↓P4,Q1,Q2,Q3,Q4,Q5,Q6,Q7,Q8,Q9])
        exact bad 2 0 _ (.inr rfl) (.inr fun n hn => by rw [hv] at hn; cases hn) (by decide) (by decide) h1
      have hyes : digV c < base.toNat := hdl.1.1 (by omega)
      have hde := hdl.2 hyes
      rw [if_pos hyes, ← hde] at hv
      have big : ∀ n, valB base.toNat s 0 = some n → a * base.toNat + d ≤ n := fun n hn => valB_ge bN1 (hv ▸ hn)
      have hmul : ((a * base.toNat : Nat) : Int) = (a : Int) * base := by rw [Int.natCast_mul, bE]
      (try simp -dsimp (disch := first|exact P5|fail) only [↓P1,P2,↓P4,Q1,Q2,Q3,Q4,Q5,Q6,Q7,Q8,Q9, w2])
      refine join_now ?_
      (try simp -dsimp (disch := first|exact P5|fail) only [↓P1,P2,↓P4,Q1,Q2,Q3,Q4,Q5,Q6,Q7,Q8,Q9, w2, hdb])
      refine join_now ?_
      by_cases hcut : (cut : Int) ≤ (a : Int)
      · have c2' := c2 a (by omega)
        (try simp -dsimp (disch := first|exact P5|fail) only [↓P1,P2,↓P4,Q1,Q2,Q3,Q4,Q5,Q6,Q7,Q8,Q9, hcut])
        refine mki_by cc ?_
        (try simp -dsimp (disch := first|exact P5|fail) only [↓P1,P2,↓P4,Q1,Q2,Q3,Q4,Q5,Q6,Q7,Q8,Q9])
        exact bad 1 _ _ (.inl rfl) (.inr fun n hn => by have := big n hn; omega) (by decide) (by decide) h1
      have c1' := c1cut a (by omega)
      have m0 : 0 ≤ (a : Int) * base := by rw [← hmul]; omega
      have w3 : IntKind.u64.wrap ((a : Int) * base) = (a : Int) * base := wrapU64 _ m0 c1'
      have w4 : IntKind.u64.wrap (d : Int) = (d : Int) := wrapU64 _ (by omega) (by omega)
      by_cases hov : (a : Int) * base + d ≤ 18446744073709551615
      · have w5 : IntKind.u64.wrap ((a : Int) * base + d) = (a : Int) * base + d := wrapU64 _ (by omega) hov
        have l1 : ¬ (a : Int) * base + d < (a : Int) * base := by omega
        have l2 : ¬ 18446744073709551615 < (a : Int) * base + d := by omega
        (try simp -dsimp (disch := first|exact P5|fail) only [↓P1,P2,↓P4,Q1,Q2,Q3,Q4,Q5,Q6,Q7,Q8,Q9, hcut, w1, w3, w4, w5])
        refine join_now ?_
        (try simp -dsimp (disch := first|exact P5|fail) only [↓P1,P2,↓P4,Q1,Q2,Q3,Q4,Q5,Q6,Q7,Q8,Q9, l1, l2])
        exact hag _ _ _ ⟨a * base.toNat + d, j + 1, by rw [Int.natCast_add, hmul, Int.natCast_add]; rfl, rfl, hlt, by omega, hv, rfl⟩ (by omega)
      · have w5 : IntKind.u64.wrap ((a : Int) * base + d) = (a : Int) * base + d - 18446744073709551616 := by
          simp [IntKind.wrap, IntKind.bits, IntKind.signed]; omega
        have l1 : (a : Int) * base + d - 18446744073709551616 < (a : Int) * base := by omega
        (try simp -dsimp (disch := first|exact P5|fail) only [↓P1,P2,↓P4,Q1,Q2,Q3,Q4,Q5,Q6,Q7,Q8,Q9, hcut, w1, w3, w4, w5])
        refine join_now ?_
        (try simp -dsimp (disch := first|exact P5|fail) only [↓P1,P2,↓P4,Q1,Q2,Q3,Q4,Q5,Q6,Q7,Q8,Q9, l1])
        refine mki_by cc ?_
        (try simp -dsimp (disch := first|exact P5|fail) only [↓P1,P2,↓P4,Q1,Q2,Q3,Q4,Q5,Q6,Q7,Q8,Q9])
        exact bad 1 _ _ (.inl rfl) (.inr fun n hn => by have := big n hn; omega) (by decide) (by decide) h1
    clear hJ10
    have none_ : digK c = 99 → ∀ n, valB base.toNat s 0 = some n → 18446744073709551616 ≤ n := fun h9 n hn => by
      have := digK_lt (c := c) bN
      rw [if_neg (fun h5 => by have := this.1.2 h5; omega)] at hv
      rw [hv] at hn; cases hn
    have hcs := c.toNat_lt
    have bad2 : digK c = 99 → k (.tuple #[.int .u64 0, .iface 334 (.int .i64 2)]) s1 := fun h9 => bad 2 0 _ (.inr rfl) (.inr (none_ h9)) (by decide) (by decide) h1
    by_cases e95 : c = 95
    · subst e95
      have h9 : digK 95 = 99 := by decide +kernel
      have o1 : 97 ≤ orV 95 := by decide +kernel
      have o2 : ¬ orV 95 ≤ 122 := by decide +kernel
      (try simp -dsimp (disch := first|exact P5|fail) only [↓P1,P2,↓P4,Q1,Q2,Q3,Q4,Q5,Q6,Q7,Q8,Q9])
      refine lower_c (c := 95) ?_
      (try simp -dsimp (disch := first|exact P5|fail) only [↓P1,P2,↓P4,Q1,Q2,Q3,Q4,Q5,Q6,Q7,Q8,Q9, o1])
      refine lower_c (c := 95) ?_
      (try simp -dsimp (disch := first|exact P5|fail) only [↓P1,P2,↓P4,Q1,Q2,Q3,Q4,Q5,Q6,Q7,Q8,Q9, o2])
      refine mki_by cc ?_
      (try simp -dsimp (disch := first|exact P5|fail) only [↓P1,P2,↓P4,Q1,Q2,Q3,Q4,Q5,Q6,Q7,Q8,Q9])
      exact bad2 h9
    replace e95 : ¬ (c.toNat : Int) = 95 := fun e => e95 (UInt8.toNat_inj.1 (by show c.toNat = 95; omega))
    have hor := digK_at c
    by_cases d1 : 48 ≤ (c.toNat : Int)
    · by_cases d2 : (c.toNat : Int) ≤ 57
      · have ed : (c.toNat : Int) - 48 = ((c.toNat - 48 : Nat) : Int) := by omega
        have w6 : IntKind.u8.wrap ((c.toNat : Int) - 48) = (c.toNat : Int) - 48 := wrapU8 _ (by omega) (by omega)
        (try simp -dsimp (disch := first|exact P5|fail) only [↓P1,P2,↓P4,Q1,Q2,Q3,Q4,Q5,Q6,Q7,Q8,Q9, e95, d1, d2, w6, ed])
        exact step _ (by unfold digK; rw [if_pos ⟨by omega, by omega⟩]) (by omega)
      have d0 : ¬ (48 ≤ c.toNat ∧ c.toNat ≤ 57) := by omega
      (try simp -dsimp (disch := first|exact P5|fail) only [↓P1,P2,↓P4,Q1,Q2,Q3,Q4,Q5,Q6,Q7,Q8,Q9, e95, d1, d2])
      refine lower_c ?_
      by_cases o1 : 97 ≤ orV c
      · (try simp -dsimp (disch := first|exact P5|fail) only [↓P1,P2,↓P4,Q1,Q2,Q3,Q4,Q5,Q6,Q7,Q8,Q9, o1])
        refine lower_c ?_
        by_cases o2 : orV c ≤ 122
        · have w7 : IntKind.u8.wrap (orV c - 97) = orV c - 97 := wrapU8 _ (by omega) (by omega)
          have w8 : IntKind.u8.wrap (orV c - 97 + 10) = orV c - 97 + 10 := wrapU8 _ (by omega) (by omega)
          have eo : orV c - 97 + 10 = ((orV c - 87).toNat : Int) := by omega
          (try simp -dsimp (disch := first|exact P5|fail) only [↓P1,P2,↓P4,Q1,Q2,Q3,Q4,Q5,Q6,Q7,Q8,Q9, o2])
          refine lower_c ?_
          (try simp -dsimp (disch := first|exact P5|fail) only [↓P1,P2,↓P4,Q1,Q2,Q3,Q4,Q5,Q6,Q7,Q8,Q9, w7, w8, eo])
          exact step _ (by unfold digK; rw [if_neg d0, if_pos ⟨o1, o2⟩]) (by omega)
        · (try simp -dsimp (disch := first|exact P5|fail) only [↓P1,P2,↓P4,Q1,Q2,Q3,Q4,Q5,Q6,Q7,Q8,Q9, o2])
          refine mki_by cc ?_
          (try simp -dsimp (disch := first|exact P5|fail) only [↓P1,P2,↓P4,Q1,Q2,Q3,Q4,Q5,Q6,Q7,Q8,Q9])
          exact bad2 (by unfold digK; rw [if_neg d0, if_neg fun h => o2 h.2])
      · (try simp -dsimp (disch := first|exact P5|fail) only [↓P1,P2,↓P4,Q1,Q2,Q3,Q4,Q5,Q6,Q7,Q8,Q9, o1])
        refine mki_by cc ?_
        (try simp -dsimp (disch := first|exact P5|fail) only [↓P1,P2,↓P4,Q1,Q2,Q3,Q4,Q5,Q6,Q7,Q8,Q9])
        exact bad2 (by unfold digK; rw [if_neg d0, if_neg fun h => o1 h.1])
    · have d0 : ¬ (48 ≤ c.toNat ∧ c.toNat ≤ 57) := by omega
      (try simp -dsimp (disch := first|exact P5|fail) only [↓P1,P2,↓P4,Q1,Q2,Q3,Q4,Q5,Q6,Q7,Q8,Q9, e95, d1])
      refine lower_c ?_
      by_cases o1 : 97 ≤ orV c
      · (try simp -dsimp (disch := first|exact P5|fail) only [↓P1,P2,↓P4,Q1,Q2,Q3,Q4,Q5,Q6,Q7,Q8,Q9, o1])
        refine lower_c ?_
        by_cases o2 : orV c ≤ 122
        · have w7 : IntKind.u8.wrap (orV c - 97) = orV c - 97 := wrapU8 _ (by omega) (by omega)
          have w8 : IntKind.u8.wrap (orV c - 97 + 10) = orV c - 97 + 10 := wrapU8 _ (by omega) (by omega)
          have eo : orV c - 97 + 10 = ((orV c - 87).toNat : Int) := by omega
          (try simp -dsimp (disch := first|exact P5|fail) only [↓P1,P2,↓P4,Q1,Q2,Q3,Q4,Q5,Q6,Q7,Q8,Q9, o2])
          refine lower_c ?_
          (try simp -dsimp (disch := first|exact P5|fail) only [↓P1,P2,↓P4,Q1,Q2,Q3,Q4,Q5,Q6,Q7,Q8,Q9, w7, w8, eo])
          exact step _ (by unfold digK; rw [if_neg d0, if_pos ⟨o1, o2⟩]) (by omega)
        · (try simp -dsimp (disch := first|exact P5|fail) only [↓P1,P2,↓P4,Q1,Q2,Q3,Q4,Q5,Q6,Q7,Q8,Q9, o2])
          refine mki_by cc ?_
          (try simp -dsimp (disch := first|exact P5|fail) only [↓P1,P2,↓P4,Q1,Q2,Q3,Q4,Q5,Q6,Q7,Q8,Q9])
          exact bad2 (by unfold digK; rw [if_neg d0, if_neg fun h => o2 h.2])
      · (try simp -dsimp (disch := first|exact P5|fail) only [↓P1,P2,↓P4,Q1,Q2,Q3,Q4,Q5,Q6,Q7,Q8,Q9, o1])
        refine mki_by cc ?_
        (try simp -dsimp (disch := first|exact P5|fail) only [↓P1,P2,↓P4,Q1,Q2,Q3,Q4,Q5,Q6,Q7,Q8,Q9])
        exact bad2 (by unfold digK; rw [if_neg d0, if_neg fun h => o1 h.1])
  clear hJ4
  rcases hb with rfl | rfl | rfl
  · have hq : IntKind.u64.wrap (IntKind.u64.wrap (18446744073709551615 / 8) + 1) = 2305843009213693952 := by decide +kernel
    (try simp -dsimp (disch := first|exact P5|fail) only [↓P1,P2,↓P4,Q1,Q2,Q3,Q4,Q5,Q6,Q7,Q8,Q9, w1])
    rw [hq]
    exact tail 2305843009213693952 (fun a ha => by omega) (fun a ha => by omega)
  · (try simp -dsimp (disch := first|exact P5|fail) only [↓P1,P2,↓P4,Q1,Q2,Q3,Q4,Q5,Q6,Q7,Q8,Q9])
    exact tail 1844674407370955162 (fun a ha => by omega) (fun a ha => by omega)
  · (try simp -dsimp (disch := first|exact P5|fail) only [↓P1,P2,↓P4,Q1,Q2,Q3,Q4,Q5,Q6,Q7,Q8,Q9])
    exact tail 1152921504606846976 (fun a ha => by omega) (fun a ha => by omega)
end
end Go.Proofs.YtdlimikcgdgfpaaGreatDoor.A03
namespace Go.Proofs.YtdlimikcgdgfpaaGreatDoor.A03
open Tryz renaming prog → PG
open E renaming preR → P1, postR → P2, w_join → P3, w_stop → P4, dsc → P5
open E Go.Lib
def numB (w : Str) : Int × Str :=
  if 2 < w.length ∧ (w.take 2 = [48, 120] ∨ w.take 2 = [48, 88]) then (16, w.drop 2)
  else if 1 < w.length ∧ w[0]?.getD 0 = 48 then (8, w) else (10, w)
theorem numP_B (w : Str) : numP w = if (numB w).2 = [] then none else valB (numB w).1.toNat (numB w).2 0 := by
  match w with
  | [] => rfl
  | [c] => simp [numB, numP]
  | c :: x :: t =>
    have eL : numP (c :: x :: t) = (if c = 48 then (if (x = 120 ∨ x = 88) ∧ t ≠ [] then valB 16 t 0 else valB 8 (x :: t) 0) else valB 10 (c :: x :: t) 0) := rfl
    rw [eL]
    by_cases h0 : c = 48
    · subst h0
      by_cases hx : (x = 120 ∨ x = 88) ∧ t ≠ []
      · have ht : 0 < t.length := List.length_pos_iff.2 hx.2
        have h1 : 2 < (48 :: x :: t).length ∧ ((48 :: x :: t).take 2 = [48, 120] ∨ (48 :: x :: t).take 2 = [48, 88]) := ⟨by simp; omega, by rcases hx.1 with rfl | rfl <;> simp⟩
        have eB : numB (48 :: x :: t) = (16, t) := by unfold numB; rw [if_pos h1]; rfl
        rw [eB, if_pos rfl, if_pos hx, if_neg hx.2]
        rfl
      · have h1 : ¬ (2 < (48 :: x :: t).length ∧ ((48 :: x :: t).take 2 = [48, 120] ∨ (48 :: x :: t).take 2 = [48, 88])) := fun h => by
          apply hx
          refine ⟨?_, fun e => by subst e; simp at h⟩
          rcases h.2 with h | h <;> simp at h
          · exact .inl h
          · exact .inr h
        have eB : numB (48 :: x :: t) = (8, 48 :: x :: t) := by unfold numB; rw [if_neg h1, if_pos ⟨by simp, by simp⟩]
        rw [eB, if_pos rfl, if_neg hx, if_neg (by simp)]
        simp [valB, digV]
    · have h1 : ¬ (2 < (c :: x :: t).length ∧ ((c :: x :: t).take 2 = [48, 120] ∨ (c :: x :: t).take 2 = [48, 88])) := fun h => by
        rcases h.2 with h | h <;> simp at h <;> exact h0 h.1
      have eB : numB (c :: x :: t) = (10, c :: x :: t) := by unfold numB; rw [if_neg h1, if_neg (fun h => h0 (by simpa using h.2))]
      rw [eB, if_neg h0, if_neg (by simp)]
      rfl
theorem numB_base (w : Str) : (numB w).1 = 8 ∨ (numB w).1 = 10 ∨ (numB w).1 = 16 := by
  unfold numB
  split
  · exact .inr (.inr rfl)
  split
  · exact .inl rfl
  · exact .inr (.inl rfl)
theorem dig_clean_all : (List.range 256).all (fun i => !decide (digV (UInt8.ofNat i) < 16) || (decide (i < 128) && !decide (UInt8.ofNat i ∈ n3))) = true := by decide +kernel
theorem dig_clean {c : UInt8} (h : digV c < 16) : c.toNat < 128 ∧ c ∉ n3 := by
  have h1 := List.all_eq_true.1 dig_clean_all c.toNat (List.mem_range.2 c.toNat_lt)
  simp only [UInt8.ofNat_toNat, h, decide_true, Bool.not_true, Bool.false_or, Bool.and_eq_true, decide_eq_true_eq, Bool.not_eq_true', decide_eq_false_iff_not] at h1
  exact h1
theorem valB_clean {b : Nat} (hb : b ≤ 16) : ∀ {s : Str} {a n : Nat}, valB b s a = some n → CleanN s
  | [], _, _, _ => fun c hc => by cases hc
  | c :: t, a, n, h => by
    simp only [valB] at h
    split at h
    · rename_i hd
      intro x hx
      rcases List.mem_cons.1 hx with rfl | hx
      · exact dig_clean (by omega)
      · exact valB_clean hb h x hx
    · cases h
def NumR (w : Str) (v : Int) (ok : Bool) : Prop := (∃ n : Nat, numP w = some n ∧ n < 18446744073709551616 ∧ v = n ∧ ok = true) ∨ (ok = false ∧ (∀ n, numP w = some n → 18446744073709551616 ≤ n) ∧ 0 ≤ v ∧ v ≤ 18446744073709551615)
section
variable {σ σ' : AS} {X : Ce} {R : List Ck} {k : Value → AS → Prop} {s w : Str} {base : Int} {te1 te2 : Nat} {pe1 pe2 : Value}
theorem spu_c (hS : X 4 0 = some (.iface te1 pe1)) (hR : X 5 0 = some (.iface te2 pe2)) (hb : base = 8 ∨ base = 10 ∨ base = 16) (hs : s.length ≤ 1000000) (h : Hs σ X R)
    (hk : ∀ (v : Int) (e : Value) σ', ((∃ n : Nat, s ≠ [] ∧ valB base.toNat s 0 = some n ∧ n < 18446744073709551616 ∧ v = n ∧ e = .nilIface) ∨ ((∃ t p, e = .iface t p) ∧ (s = [] ∨ ∀ n, valB base.toNat s 0 = some n → 18446744073709551616 ≤ n) ∧ 0 ≤ v ∧ v ≤ 18446744073709551615)) → Hs σ' X R → k (.tuple #[.int .u64 v, e]) σ') :
    kCall PG 290 [.string (bs s), .int .i64 base, .int .i64 64] σ k := by
  refine f290 ?_
  (simp -dsimp (disch := first|exact P5|fail) only [↓P1,P2,↓P3,Q1,Q2,Q3,Q4,Q5,Q6,Q7,Q8,Q9, F290])
  refine pu_c hb hs h fun v e s1 hr h1 => ?_
  have hsz : (bs s).size = s.length := bs_size s
  rcases hr with ⟨n, h2, h3, h4, rfl, rfl⟩ | ⟨⟨x, hx, rfl⟩, h3, h4, h5⟩
  · (try simp -dsimp (disch := first|exact P5|fail) only [↓P1,P2,↓P4,Q1,Q2,Q3,Q4,Q5,Q6,Q7,Q8,Q9])
    refine join_now ?_
    (try simp -dsimp (disch := first|exact P5|fail) only [↓P1,P2,↓P4,Q1,Q2,Q3,Q4,Q5,Q6,Q7,Q8,Q9])
    exact hk _ _ _ (.inl ⟨n, h2, h3, h4, rfl, rfl⟩) h1
  · (try simp -dsimp (disch := first|exact P5|fail) only [↓P1,P2,↓P4,Q1,Q2,Q3,Q4,Q5,Q6,Q7,Q8,Q9])
    refine join_now ?_
    (try simp -dsimp (disch := first|exact P5|fail) only [↓P1,P2,↓P4,Q1,Q2,Q3,Q4,Q5,Q6,Q7,Q8,Q9])
    rcases hx with rfl | rfl
    · refine below_ex (Q := fun v => ∃ t p, v = .iface t p) (fun w0 hw => Calls.mono (Any.strconv_toError_range Tryz.laysC245 _ (bs s) base 64 (.iface te2 pe2) w0 (by omega) (hw.ld (h1.x _ _ _ hR)) (.inr ⟨_, _, rfl⟩)) fun e' w' ⟨N, q1, _, _, q4⟩ => ⟨⟨_, q1, _, _, rfl⟩, q4⟩) fun v2 j hv2 => ?_
      obtain ⟨t, p, rfl⟩ := hv2
      (try simp -dsimp (disch := first|exact P5|fail) only [↓P1,P2,↓P4,Q1,Q2,Q3,Q4,Q5,Q6,Q7,Q8,Q9])
      exact hk _ _ _ (.inr ⟨⟨_, _, rfl⟩, h3, h4, h5⟩) (h1.up j)
    · refine below_ex (Q := fun v => ∃ t p, v = .iface t p) (fun w0 hw => Calls.mono (Any.strconv_toError_syntax Tryz.laysC245 _ (bs s) base 64 (.iface te1 pe1) w0 (by omega) (hw.ld (h1.x _ _ _ hS)) (.inr ⟨_, _, rfl⟩)) fun e' w' ⟨N, q1, _, _, q4⟩ => ⟨⟨_, q1, _, _, rfl⟩, q4⟩) fun v2 j hv2 => ?_
      obtain ⟨t, p, rfl⟩ := hv2
      (try simp -dsimp (disch := first|exact P5|fail) only [↓P1,P2,↓P4,Q1,Q2,Q3,Q4,Q5,Q6,Q7,Q8,Q9])
      exact hk _ _ _ (.inr ⟨⟨_, _, rfl⟩, h3, h4, h5⟩) (h1.up j)
theorem num_c (hS : X 4 0 = some (.iface te1 pe1)) (hR : X 5 0 = some (.iface te2 pe2)) (hs : w.length ≤ 1000000) (h : Hs σ X R)
    (hk : ∀ (v : Int) (ok : Bool) σ', NumR w v ok → Hs σ' X R → k (.tuple #[.int .u64 v, .bool ok]) σ') : kCall PG 267 [.string (bs w)] σ k := by
  refine f267 ?_
  (try simp -dsimp (disch := first|exact P5|fail) only [↓P1,P2,↓P4,Q1,Q2,Q3,Q4,Q5,Q6,Q7,Q8,Q9, F267])
  refine join_by fun J1 hJ1 => ?_
  have tail : J1 [.int .i64 (numB w).1, .string (bs (numB w).2)] σ := by
    refine hJ1 _ _ ?_
    clear hJ1
    have hP := numP_B w
    have hB := numB_base w
    have hd : (numB w).2.length ≤ 1000000 := by
      unfold numB
      split
      · simp; omega
      split <;> exact hs
    generalize (numB w).1 = base at hP hB
    generalize (numB w).2 = d at hP hd
    by_cases hd0 : d = []
    · subst hd0
      rw [if_pos rfl] at hP
      (try simp -dsimp (disch := first|exact P5|fail) only [↓P1,P2,↓P4,Q1,Q2,Q3,Q4,Q5,Q6,Q7,Q8,Q9])
      refine join_now ?_
      (try simp -dsimp (disch := first|exact P5|fail) only [↓P1,P2,↓P4,Q1,Q2,Q3,Q4,Q5,Q6,Q7,Q8,Q9])
      exact hk _ _ _ (.inr ⟨rfl, fun n hn => (by rw [hP] at hn; cases hn), by decide, by decide⟩) h
    rw [if_neg hd0] at hP
    (try simp -dsimp (disch := first|exact P5|fail) only [↓P1,P2,↓P4,Q1,Q2,Q3,Q4,Q5,Q6,Q7,Q8,Q9])
    refine join_by fun J2 hJ2 => ?_
    (try simp -dsimp (disch := first|exact P5|fail) only [↓P1,P2,↓P4,Q1,Q2,Q3,Q4,Q5,Q6,Q7,Q8,Q9, hd0])
    refine anyn_c hd h fun b s1 hb h1 => ?_
    cases b with
    | true =>
      (try simp -dsimp (disch := first|exact P5|fail) only [↓P1,P2,↓P4,Q1,Q2,Q3,Q4,Q5,Q6,Q7,Q8,Q9])
      refine hk _ _ _ (.inr ⟨rfl, fun n hn => ?_, by decide, by decide⟩) h1
      rw [hP] at hn
      have := hb (valB_clean (by omega) hn)
      cases this
    | false =>
      (try simp -dsimp (disch := first|exact P5|fail) only [↓P1,P2,↓P4,Q1,Q2,Q3,Q4,Q5,Q6,Q7,Q8,Q9])
      refine hJ2 _ _ ?_
      clear hJ2
      (try simp -dsimp (disch := first|exact P5|fail) only [↓P1,P2,↓P4,Q1,Q2,Q3,Q4,Q5,Q6,Q7,Q8,Q9])
      refine spu_c hS hR hB hd h1 fun v e s2 hr h2 => ?_
      rcases hr with ⟨n, q2, q3, q4, rfl, rfl⟩ | ⟨⟨t, p, rfl⟩, q3, q4, q5⟩
      · (try simp -dsimp (disch := first|exact P5|fail) only [↓P1,P2,↓P4,Q1,Q2,Q3,Q4,Q5,Q6,Q7,Q8,Q9])
        exact hk _ _ _ (.inl ⟨n, by rw [hP]; exact q3, q4, rfl, rfl⟩) h2
      · (try simp -dsimp (disch := first|exact P5|fail) only [↓P1,P2,↓P4,Q1,Q2,Q3,Q4,Q5,Q6,Q7,Q8,Q9])
        refine hk _ _ _ (.inr ⟨rfl, fun n hn => ?_, q4, q5⟩) h2
        rw [hP] at hn
        rcases q3 with q3 | q3
        · exact absurd q3 hd0
        · exact q3 n hn
  clear hJ1
  unfold numB at tail
  have hdr : List.take (w.length - 2) (w.drop 2) = w.drop 2 := List.take_of_length_le (by simp)
  by_cases l2 : 2 < w.length
  · have l2' : 2 < (w.length : Int) := by omega
    have l1' : 1 < (w.length : Int) := by omega
    by_cases p1 : w.take 2 = [48, 120]
    · rw [if_pos ⟨l2, .inl p1⟩] at tail
      (try simp -dsimp (disch := first|exact P5|fail) only [↓P1,P2,↓P4,Q1,Q2,Q3,Q4,Q5,Q6,Q7,Q8,Q9, l2', p1, hdr])
      exact tail
    by_cases p2 : w.take 2 = [48, 88]
    · rw [if_pos ⟨l2, .inr p2⟩] at tail
      have hne : ¬ ([48, 88] : Str) = [48, 120] := by decide
      (try simp -dsimp (disch := first|exact P5|fail) only [↓P1,P2,↓P4,Q1,Q2,Q3,Q4,Q5,Q6,Q7,Q8,Q9, l2', p2, hne, hdr])
      exact tail
    rw [if_neg (fun h => h.2.elim p1 p2)] at tail
    by_cases f0 : w[0]?.getD 0 = 48
    · rw [if_pos ⟨by omega, f0⟩] at tail
      (try simp -dsimp (disch := first|exact P5|fail) only [↓P1,P2,↓P4,Q1,Q2,Q3,Q4,Q5,Q6,Q7,Q8,Q9, l2', l1', p1, p2, f0])
      exact tail
    · rw [if_neg (fun h => f0 h.2)] at tail
      have f1 : ¬ ((w[0]?.getD 0).toNat : Int) = 48 := fun e => f0 (UInt8.toNat_inj.1 (by show _ = 48; omega))
      (try simp -dsimp (disch := first|exact P5|fail) only [↓P1,P2,↓P4,Q1,Q2,Q3,Q4,Q5,Q6,Q7,Q8,Q9, l2', l1', p1, p2, f1])
      exact tail
  · have l2' : ¬ 2 < (w.length : Int) := by omega
    rw [if_neg (fun h => l2 h.1)] at tail
    by_cases l1 : 1 < w.length
    · have l1' : 1 < (w.length : Int) := by omega
      by_cases f0 : w[0]?.getD 0 = 48
      · rw [if_pos ⟨l1, f0⟩] at tail
        (try simp -dsimp (disch := first|exact P5|fail) only [↓P1,P2,↓P4,Q1,Q2,Q3,Q4,Q5,Q6,Q7,Q8,Q9, l2', l1', f0])
        exact tail
      · rw [if_neg (fun h => f0 h.2)] at tail
        have f1 : ¬ ((w[0]?.getD 0).toNat : Int) = 48 := fun e => f0 (UInt8.toNat_inj.1 (by show _ = 48; omega))
        (try simp -dsimp (disch := first|exact P5|fail) only [↓P1,P2,↓P4,Q1,Q2,Q3,Q4,Q5,Q6,Q7,Q8,Q9, l2', l1', f1])
        exact tail
    · have l1' : ¬ 1 < (w.length : Int) := by omega
      rw [if_neg (fun h => l1 h.1)] at tail
      (try simp -dsimp (disch := first|exact P5|fail) only [↓P1,P2,↓P4,Q1,Q2,Q3,Q4,Q5,Q6,Q7,Q8,Q9, l2', l1'])
      exact tail
end
end Go.Proofs.YtdlimikcgdgfpaaGreatDoor.A03
namespace Go.Proofs.YtdlimikcgdgfpaaGreatDoor.A03
open Tryz renaming prog → PG
open E renaming preR → P1, postR → P2, w_join → P3, w_stop → P4, dsc → P5
open E Go.Lib
theorem trimS_len (s set : Str) : (trimS s set).length ≤ s.length := by
  unfold trimS trimLeftS trimRightS
  refine Nat.le_trans (List.length_reverse ▸ (List.dropWhile_sublist _).length_le) ?_
  have h := (List.dropWhile_sublist (fun x => set.contains x) (l := s.reverse)).length_le
  rw [List.length_reverse] at h
  first
    | exact h
    | (rw [List.length_reverse]; exact h)
section
variable {σ σ' : AS} {X : Ce} {R : List Ck} {k : Value → AS → Prop} {s w : Str} {base : Int} {te1 te2 : Nat} {pe1 pe2 : Value}
theorem trimb_c (hl : s.length ≤ maxLen) (hk : ∀ j, k (.string (bs (trimS s blk3))) (σ.up j)) : kCall PG 239 [.string (bs s), .string (bs [32, 9, 10])] σ k :=
  below_by (fun w hw => by
    have h := Any.strings_Trim_laid Tryz.lays160 (by kernel_rfl) (bs s) (bs blk3) w (by unfold maxLen at hl; show s.toArray.size ≤ _; simp; omega) (by decide) (ascii_of_all (by decide))
    have e : (bs s).data.toList = s := by simp [bs]
    have e2 : (bs blk3).data.toList = blk3 := by simp [bs]
    rw [e, e2] at h
    exact h) hk
theorem tlb_c (hl : s.length ≤ maxLen) (hk : ∀ j, k (.string (bs (skipB s))) (σ.up j)) : kCall PG 231 [.string (bs s), .string (bs [32, 9, 10])] σ k :=
  below_by (fun w hw => by
    have h := Any.strings_TrimLeft_laid Tryz.lays161 (by kernel_rfl) (bs s) (bs blk3) w (by decide) (ascii_of_all (by decide))
    have e : (bs s).data.toList = s := by simp [bs]
    have e2 : (bs blk3).data.toList = blk3 := by simp [bs]
    rw [e, e2] at h
    exact h) hk
theorem value_c (hS : X 4 0 = some (.iface te1 pe1)) (hR : X 5 0 = some (.iface te2 pe2)) (hs : s.length ≤ 1000000) (h : Hs σ X R)
    (hk : ∀ σ', Hs σ' X R → k (.tuple #[.int .i64 (valueP s).1, .int .i64 (valueP s).2]) σ') : kCall PG 236 [.string (bs s)] σ k := by
  refine f236 ?_
  (try simp -dsimp (disch := first|exact P5|fail) only [↓P1,P2,↓P4,Q1,Q2,Q3,Q4,Q5,Q6,Q7,Q8,Q9, F236])
  refine trimb_c (by unfold maxLen; omega) fun j0 => ?_
  have h0 := h.up j0
  generalize σ.up j0 = s0 at h0 ⊢
  have hl := trimS_len s blk3
  unfold valueP at hk
  generalize trimS s blk3 = t at hk hl ⊢
  cases t with
  | nil =>
    (try simp -dsimp (disch := first|exact P5|fail) only [↓P1,P2,↓P4,Q1,Q2,Q3,Q4,Q5,Q6,Q7,Q8,Q9])
    refine join_now ?_
    (try simp -dsimp (disch := first|exact P5|fail) only [↓P1,P2,↓P4,Q1,Q2,Q3,Q4,Q5,Q6,Q7,Q8,Q9])
    exact hk _ h0
  | cons c t =>
    simp only at hk
    have hl' : t.length + 1 ≤ 1000000 := by simp at hl; omega
    (try simp -dsimp (disch := first|exact P5|fail) only [↓P1,P2,↓P4,Q1,Q2,Q3,Q4,Q5,Q6,Q7,Q8,Q9])
    refine join_now ?_
    have hne : ¬ (c :: t : Str) = [] := by simp
    (try simp -dsimp (disch := first|exact P5|fail) only [↓P1,P2,↓P4,Q1,Q2,Q3,Q4,Q5,Q6,Q7,Q8,Q9, hne])
    refine join_by fun J2 hJ2 => ?_
    have tail : ∀ (w sg : Str), w.length ≤ 1000000 → (sg = [45] ∨ ¬ sg = [45]) → (∀ σ', Hs σ' X R → k (.tuple #[.int .i64 (match numP w with | none => ((0, 10) : Int × Int) | some n => if sg = [45] then (if 9223372036854775808 < n then (0, 10) else (-(n : Int), 0)) else (if 9223372036854775808 ≤ n then (0, 10) else ((n : Int), 0))).1, .int .i64 (match numP w with | none => ((0, 10) : Int × Int) | some n => if sg = [45] then (if 9223372036854775808 < n then (0, 10) else (-(n : Int), 0)) else (if 9223372036854775808 ≤ n then (0, 10) else ((n : Int), 0))).2]) σ') → J2 [.string (bs w), .string (bs sg)] s0 := by
      intro w sg hw hsg hkk
      refine hJ2 _ _ ?_
      clear hJ2
      (try simp -dsimp (disch := first|exact P5|fail) only [↓P1,P2,↓P4,Q1,Q2,Q3,Q4,Q5,Q6,Q7,Q8,Q9])
      refine num_c hS hR hw h0 fun v ok s1 hr h1 => ?_
      have hkk := hkk _ h1
      rcases hr with ⟨n, q1, q2, rfl, rfl⟩ | ⟨rfl, q2, q3, q4⟩
      · rw [q1] at hkk
        simp only at hkk
        (try simp -dsimp (disch := first|exact P5|fail) only [↓P1,P2,↓P4,Q1,Q2,Q3,Q4,Q5,Q6,Q7,Q8,Q9])
        refine join_now ?_
        by_cases g1 : 9223372036854775808 < n
        · have g1' : 9223372036854775808 < (n : Int) := by omega
          rw [if_pos g1, if_pos (show 9223372036854775808 ≤ n by omega), ite_self] at hkk
          (try simp -dsimp (disch := first|exact P5|fail) only [↓P1,P2,↓P4,Q1,Q2,Q3,Q4,Q5,Q6,Q7,Q8,Q9, g1'])
          exact hkk
        have g1' : ¬ 9223372036854775808 < (n : Int) := by omega
        rw [if_neg g1] at hkk
        by_cases g2 : n = 9223372036854775808
        · subst g2
          rcases hsg with e | e
          · subst e
            rw [if_pos rfl] at hkk
            have w1 : IntKind.i64.wrap (0 - IntKind.i64.wrap ((9223372036854775808 : Nat) : Int)) = -9223372036854775808 := by decide +kernel
            (try simp -dsimp (disch := first|exact P5|fail) only [↓P1,P2,↓P4,Q1,Q2,Q3,Q4,Q5,Q6,Q7,Q8,Q9])
            rw [w1]
            exact hkk
          · rw [if_neg e, if_pos (Nat.le_refl _)] at hkk
            (try simp -dsimp (disch := first|exact P5|fail) only [↓P1,P2,↓P4,Q1,Q2,Q3,Q4,Q5,Q6,Q7,Q8,Q9, e])
            exact hkk
        have g2' : ¬ (n : Int) = 9223372036854775808 := by omega
        have w1 : IntKind.i64.wrap (n : Int) = (n : Int) := wrap64 _ (by omega) (by omega)
        have w2 : IntKind.i64.wrap (-(n : Int)) = -(n : Int) := wrap64 _ (by omega) (by omega)
        rcases hsg with e | e
        · subst e
          rw [if_pos rfl] at hkk
          have e0 : (0 : Int) - (n : Int) = -(n : Int) := by omega
          (try simp -dsimp (disch := first|exact P5|fail) only [↓P1,P2,↓P4,Q1,Q2,Q3,Q4,Q5,Q6,Q7,Q8,Q9, g1', g2', w1, w2])
          rw [e0]
          exact hkk
        · rw [if_neg e, if_neg (by omega)] at hkk
          (try simp -dsimp (disch := first|exact P5|fail) only [↓P1,P2,↓P4,Q1,Q2,Q3,Q4,Q5,Q6,Q7,Q8,Q9, g1', g2', e, w1])
          exact hkk
      · have hbad : k (.tuple #[.int .i64 0, .int .i64 10]) s1 := by
          cases hq : numP w with
          | none => rw [hq] at hkk; exact hkk
          | some n =>
            have := q2 n hq
            rw [hq] at hkk
            simp only [if_pos (show 9223372036854775808 < n by omega), if_pos (show 9223372036854775808 ≤ n by omega), ite_self] at hkk
            exact hkk
        (try simp -dsimp (disch := first|exact P5|fail) only [↓P1,P2,↓P4,Q1,Q2,Q3,Q4,Q5,Q6,Q7,Q8,Q9])
        refine join_now ?_
        (try simp -dsimp (disch := first|exact P5|fail) only [↓P1,P2,↓P4,Q1,Q2,Q3,Q4,Q5,Q6,Q7,Q8,Q9])
        exact hbad
    clear hJ2
    by_cases c43 : c = 43
    · have h43 : (c.toNat : Int) = 43 := by rw [c43]; rfl
      have et : List.take (t.length + 1 - 1) t = t := List.take_of_length_le (by omega)
      (try simp -dsimp (disch := first|exact P5|fail) only [↓P1,P2,↓P4,Q1,Q2,Q3,Q4,Q5,Q6,Q7,Q8,Q9, Option.getD_some, h43, et])
      refine tail t [c] (by omega) (.inr (by rw [c43]; decide)) ?_
      have e0 : (([43] : Str) = [45]) = False := by simp
      have e1 : ((43 : UInt8) = 45) = False := by simp
      subst c43
      simp only [true_or, if_true, if_false, e0, e1] at hk ⊢
      exact hk
    by_cases c45 : c = 45
    · have h45 : (c.toNat : Int) = 45 := by rw [c45]; rfl
      have h43 : ¬ (c.toNat : Int) = 43 := by omega
      have et : List.take (t.length + 1 - 1) t = t := List.take_of_length_le (by omega)
      (try simp -dsimp (disch := first|exact P5|fail) only [↓P1,P2,↓P4,Q1,Q2,Q3,Q4,Q5,Q6,Q7,Q8,Q9, Option.getD_some, h45, h43, et])
      refine tail t [c] (by omega) (.inl (by rw [c45])) ?_
      subst c45
      simp only [or_true, if_true] at hk ⊢
      exact hk
    have n43 : ¬ (c.toNat : Int) = 43 := fun e => c43 (UInt8.toNat_inj.1 (by show _ = 43; omega))
    have n45 : ¬ (c.toNat : Int) = 45 := fun e => c45 (UInt8.toNat_inj.1 (by show _ = 45; omega))
    (try simp -dsimp (disch := first|exact P5|fail) only [↓P1,P2,↓P4,Q1,Q2,Q3,Q4,Q5,Q6,Q7,Q8,Q9, Option.getD_some, n43, n45])
    refine tail (c :: t) [] (by simp only [List.length_cons]; omega) (.inr (by decide)) ?_
    have e0 : (([] : Str) = [45]) = False := by simp
    simp only [c43, c45, or_self, if_false, e0] at hk ⊢
    exact hk
end
end Go.Proofs.YtdlimikcgdgfpaaGreatDoor.A03
namespace Go.Proofs.YtdlimikcgdgfpaaGreatDoor.A03
open Tryz renaming prog → PG
open E renaming preR → P1, postR → P2, w_join → P3, w_stop → P4, dsc → P5
open E Go.Lib
abbrev pvw (q : Nat) : Value := .pointer (some ⟨q, 0, none⟩)
abbrev wkC (st : ASt) (b : Bool) (m : Nat) (vv u : Value) : List Value := [.string (bs st.left), .map (some m), vv, u, .int .i64 st.over, .bool b, .int .i64 st.fell]
abbrev setsT (st : ASt) : List (Str × Str) := st.sets.map fun q => (q.1, itoa q.2)
abbrev WkR (p m : Nat) (ops : List (Str × Value)) (vv u : Value) (st : ASt) (b : Bool) (R : List Ck) : List Ck := Cel p (wkC st b m vv u) :: E.Own (α := Str × Str) u (setsT st) :: Mp (κ := Str) m none ops :: R
def FnOk (X : Ce) (op : Str) (fv : Value) : Prop := ∀ (σ : AS) (R : List Ck) (a b : Int) (k : Value → AS → Prop), inI64 a → inI64 b → Hs σ X R → (∀ σ', Hs σ' X R → k (.tuple #[.int .i64 (doP op a b).1, .int .i64 (doP op a b).2]) σ') → kCallv PG fv [.int .i64 a, .int .i64 b] σ k
abbrev lkO (ops : List (Str × Value)) (op : Str) : Option Value := @List.lookup Str Value instBEqOfDecidableEq op ops
structure OpsOk (X : Ce) (ops : List (Str × Value)) : Prop where
  yes : ∀ op, ¬ rankOf op = 0 → ∃ fv, lkO ops op = some (.agg #[.int .i64 (rankOf op), fv]) ∧ okCell fv = true ∧ (¬ rankOf op = 1 → ¬ rankOf op = 2 → FnOk X op fv)
  no : ∀ op, rankOf op = 0 → lkO ops op = none
abbrev signs5 : Str := [43, 45, 42, 47, 37]
theorem asgn_two (a b : UInt8) : asgn [a, b] = (decide (b = 61) && signs5.contains a) := by
  by_cases hb : b = 61
  · subst hb
    by_cases h1 : a = 43
    · subst h1; rfl
    by_cases h2 : a = 45
    · subst h2; rfl
    by_cases h3 : a = 42
    · subst h3; rfl
    by_cases h4 : a = 47
    · subst h4; rfl
    by_cases h5 : a = 37
    · subst h5; rfl
    have e : signs5.contains a = false := by simp [h1, h2, h3, h4, h5]
    rw [e, Bool.and_false]
    unfold asgn
    split <;> first | rfl | simp_all
  · rw [decide_eq_false hb, Bool.false_and]
    unfold asgn
    split <;> first | rfl | simp_all
theorem pos_none {c : UInt8} : ∀ {l : Str}, posB c l = none → l.contains c = false
  | [], _ => rfl
  | a :: l, h => by
    unfold posB at h
    split at h
    · cases h
    · rename_i hn
      have h2 : posB c l = none := by
        cases hp : posB c l with
        | none => rfl
        | some n => rw [hp] at h; cases h
      have := pos_none h2
      simp only [List.contains_cons, this, Bool.or_false]
      exact beq_eq_false_iff_ne.2 fun e => hn e.symm
section
variable {σ σ' : AS} {X : Ce} {R : List Ck} {k : Value → AS → Prop} {s w : Str} {p m : Nat} {ops : List (Str × Value)} {vv u : Value} {st : ASt} {b : Bool}
theorem zero_op (w : World) : (zeroValue 257).run PG w = .ok (.agg #[.int .i64 0, .nilFunc]) w := by kernel_rfl
theorem live_c (h : Hs σ X (WkR p m ops vv u st b R)) (hk : k (.bool (st.live && !b)) σ) : kCall PG 195 [pvw p] σ k := by
  refine f195 ?_
  unfold ASt.live at hk
  by_cases h1 : st.over = 0
  · have h1' : (st.over : Int) = 0 := by omega
    rw [decide_eq_true h1, Bool.true_and] at hk
    cases b with
    | true =>
      (simp -dsimp (disch := first|exact P5|fail) only [↓P1,P2,↓P3,Q1,Q2,Q3,Q4,Q5,Q6,Q7,Q8,Q9, F195, h.obj, h1'])
      simpa using hk
    | false =>
      (simp -dsimp (disch := first|exact P5|fail) only [↓P1,P2,↓P3,Q1,Q2,Q3,Q4,Q5,Q6,Q7,Q8,Q9, F195, h.obj, h1'])
      simpa using hk
  · have h1' : ¬ (st.over : Int) = 0 := by omega
    rw [decide_eq_false h1, Bool.false_and, Bool.false_and] at hk
    (simp -dsimp (disch := first|exact P5|fail) only [↓P1,P2,↓P3,Q1,Q2,Q3,Q4,Q5,Q6,Q7,Q8,Q9, F195, h.obj, h1'])
    exact hk
theorem skip_c (hl : st.left.length ≤ 1000000) (h : Hs σ X (WkR p m ops vv u st b R)) (hk : ∀ w σ', Hs σ' X (WkR p m ops vv u st.skip b R) → k w σ') : kCall PG 191 [pvw p] σ k := by
  refine f191 ?_
  (simp -dsimp (disch := first|exact P5|fail) only [↓P1,P2,↓P3,Q1,Q2,Q3,Q4,Q5,Q6,Q7,Q8,Q9, F191, h.obj])
  refine tlb_c (by unfold maxLen; omega) fun j => ?_
  have h1 := h.up j
  generalize σ.up j = s1 at h1 ⊢
  have h2 := h1.put (cs' := wkC st.skip b m vv u)
  (simp -dsimp (disch := first|exact P5|fail) only [↓P1,P2,↓P3,Q1,Q2,Q3,Q4,Q5,Q6,Q7,Q8,Q9, h1.obj])
  exact hk _ _ h2
theorem next_c (hO : OpsOk X ops) (hl : st.left.length ≤ 1000000) (h : Hs σ X (WkR p m ops vv u st b R)) (hk : ∀ σ', Hs σ' X (WkR p m ops vv u st.skip b R) → k (.string (bs (nextP st.skip.left))) σ') :
    kCall PG 134 [pvw p] σ k := by
  refine f134 ?_
  (try simp -dsimp (disch := first|exact P5|fail) only [↓P1,P2,↓P4,Q1,Q2,Q3,Q4,Q5,Q6,Q7,Q8,Q9, F134])
  refine skip_c hl h fun w s1 h1 => ?_
  have hl1 : st.skip.left.length ≤ 1000000 := Nat.le_trans (skip_len _) hl
  generalize st.skip = st1 at h1 hk hl1
  match hs : st1.left with
  | [] =>
    rw [hs] at hk
    have o1 : s1.m p = some (.cells [.string (bs []), .map (some m), vv, u, .int .i64 st1.over, .bool b, .int .i64 st1.fell]) := by rw [← hs]; exact h1.obj
    (try simp -dsimp (disch := first|exact P5|fail) only [↓P1,P2,↓P4,Q1,Q2,Q3,Q4,Q5,Q6,Q7,Q8,Q9])
    refine join_now ?_
    (try simp -dsimp (disch := first|exact P5|fail) only [↓P1,P2,↓P4,Q1,Q2,Q3,Q4,Q5,Q6,Q7,Q8,Q9, o1])
    refine join_now ?_
    (try simp -dsimp (disch := first|exact P5|fail) only [↓P1,P2,↓P4,Q1,Q2,Q3,Q4,Q5,Q6,Q7,Q8,Q9, o1])
    exact hk _ h1
  | [a] =>
    rw [hs] at hk
    have o1 : s1.m p = some (.cells [.string (bs [a]), .map (some m), vv, u, .int .i64 st1.over, .bool b, .int .i64 st1.fell]) := by rw [← hs]; exact h1.obj
    have hne : ¬ ([a] : Str) = [] := by simp
    (try simp -dsimp (disch := first|exact P5|fail) only [↓P1,P2,↓P4,Q1,Q2,Q3,Q4,Q5,Q6,Q7,Q8,Q9])
    refine join_now ?_
    (try simp -dsimp (disch := first|exact P5|fail) only [↓P1,P2,↓P4,Q1,Q2,Q3,Q4,Q5,Q6,Q7,Q8,Q9, o1])
    refine join_now ?_
    (try simp -dsimp (disch := first|exact P5|fail) only [↓P1,P2,↓P4,Q1,Q2,Q3,Q4,Q5,Q6,Q7,Q8,Q9, o1, hne])
    exact hk _ h1
  | a :: c :: t =>
    rw [hs] at hk
    have o1 : s1.m p = some (.cells [.string (bs (a :: c :: t)), .map (some m), vv, u, .int .i64 st1.over, .bool b, .int .i64 st1.fell]) := by rw [← hs]; exact h1.obj
    (try simp -dsimp (disch := first|exact P5|fail) only [↓P1,P2,↓P4,Q1,Q2,Q3,Q4,Q5,Q6,Q7,Q8,Q9])
    refine join_by fun J1 hJ1 => ?_
    have one : (rankOf [a, c] = 0 ∧ ¬ asgn [a, c] = true) → ∀ s2, Hs s2 X (WkR p m ops vv u st1 b R) → J1 [] s2 := by
      intro hn s2 h2
      have o2 : s2.m p = some (.cells [.string (bs (a :: c :: t)), .map (some m), vv, u, .int .i64 st1.over, .bool b, .int .i64 st1.fell]) := by rw [← hs]; exact h2.obj
      refine hJ1 _ _ ?_
      have e : nextP (a :: c :: t) = [a] := by
        show (if rankOf [a, c] ≠ 0 ∨ asgn [a, c] = true then _ else _) = _
        rw [if_neg (fun h => h.elim (fun h => h hn.1) hn.2)]
      rw [e] at hk
      have hne : ¬ (a :: c :: t : Str) = [] := by simp
      (try simp -dsimp (disch := first|exact P5|fail) only [↓P1,P2,↓P4,Q1,Q2,Q3,Q4,Q5,Q6,Q7,Q8,Q9, o2])
      refine join_now ?_
      (try simp -dsimp (disch := first|exact P5|fail) only [↓P1,P2,↓P4,Q1,Q2,Q3,Q4,Q5,Q6,Q7,Q8,Q9, o2, hne])
      exact hk _ h2
    clear hJ1
    (try simp -dsimp (disch := first|exact P5|fail) only [↓P1,P2,↓P4,Q1,Q2,Q3,Q4,Q5,Q6,Q7,Q8,Q9, o1])
    refine lk2_by (κ := Str) (k := [a, c]) (h1.front 2 rfl) Tryz.underlying216 Tryz.underlying9 zero_op ?_
    have h2 : Hs _ X (Cel s1.n [Value.int .i64 0, Value.nilFunc] :: WkR p m ops vv u st1 b R) := (h1.new (cs := [Value.int .i64 0, Value.nilFunc]))
    by_cases hr : rankOf [a, c] = 0
    · have hno := hO.no _ hr
      unfold lkO at hno
      have h3 := h2.put (cs' := [Value.int .i64 0, Value.nilFunc])
      rw [hno]
      have ha2 := asgn_two a c
      by_cases c61 : c = 61
      · have c61' : (c.toNat : Int) = 61 := by rw [c61]; rfl
        rw [decide_eq_true c61, Bool.true_and] at ha2
        (try simp -dsimp (disch := first|exact P5|fail) only [↓P1,P2,↓P4,Q1,Q2,Q3,Q4,Q5,Q6,Q7,Q8,Q9, Option.getD_none, Option.isSome_none, Option.getD_some, c61'])
        refine idx_c (c := a) (s := signs5) rfl ?_
        by_cases ha5 : signs5.contains a = true
        · rw [ha5] at ha2
          have e : nextP (a :: c :: t) = [a, c] := by
            show (if rankOf [a, c] ≠ 0 ∨ asgn [a, c] = true then _ else _) = _
            rw [if_pos (.inr ha2)]
          rw [e] at hk
          cases hp : posB a signs5 with
          | none => exact absurd ha5 (by rw [pos_none hp]; simp)
          | some n =>
            (try simp -dsimp (disch := first|exact P5|fail) only [↓P1,P2,↓P4,Q1,Q2,Q3,Q4,Q5,Q6,Q7,Q8,Q9])
            exact hk _ h3.drop
        · have hno2 : posB a signs5 = none := pos_no fun x hx e => ha5 (by subst e; simpa using hx)
          rw [hno2]
          (try simp -dsimp (disch := first|exact P5|fail) only [↓P1,P2,↓P4,Q1,Q2,Q3,Q4,Q5,Q6,Q7,Q8,Q9])
          exact one ⟨hr, by rw [ha2]; exact ha5⟩ _ h3.drop
      · have c61' : ¬ (c.toNat : Int) = 61 := fun e => c61 (UInt8.toNat_inj.1 (by show _ = 61; omega))
        rw [decide_eq_false c61, Bool.false_and] at ha2
        (try simp -dsimp (disch := first|exact P5|fail) only [↓P1,P2,↓P4,Q1,Q2,Q3,Q4,Q5,Q6,Q7,Q8,Q9, Option.getD_none, Option.isSome_none, Option.getD_some, c61'])
        exact one ⟨hr, by rw [ha2]; simp⟩ _ h3.drop
    · obtain ⟨fv, f1, f2, _⟩ := hO.yes _ hr
      have h3 := h2.put (cs' := [Value.int .i64 (rankOf [a, c]), fv])
      unfold lkO at f1
      have e2 : stS (s1.new (.cells [Value.int .i64 0, Value.nilFunc])) 2 (.pointer (some ⟨s1.n, 0, none⟩)) (.agg #[Value.int .i64 (rankOf [a, c]), fv]) = some ((s1.new (.cells [Value.int .i64 0, Value.nilFunc])).put s1.n (.cells [Value.int .i64 (rankOf [a, c]), fv])) := by
        have l2 : ([Value.int .i64 (rankOf [a, c]), fv] : List Value).all okCell = true := by simp [f2]; rfl
        have ea : (#[Value.int .i64 (rankOf [a, c]), fv] : Array Value) = ([Value.int .i64 (rankOf [a, c]), fv] : List Value).toArray := rfl
        have e3 : ([Value.int .i64 (rankOf [a, c]), fv] : List Value).length = 2 := rfl
        rw [st_p, h2.obj, ea]
        refine (stN _ _ _ _ _ e3 l2).trans ?_
        rw [if_pos (by simp)]
        rfl
      have e : nextP (a :: c :: t) = [a, c] := by
        show (if rankOf [a, c] ≠ 0 ∨ asgn [a, c] = true then _ else _) = _
        rw [if_pos (.inl hr)]
      rw [e] at hk
      rw [f1]
      (try simp -dsimp (disch := first|exact P5|fail) only [↓P1,P2,↓P4,Q1,Q2,Q3,Q4,Q5,Q6,Q7,Q8,Q9, Option.getD_some, Option.isSome_some, ↓e2])
      exact hk _ h3.drop
end
end Go.Proofs.YtdlimikcgdgfpaaGreatDoor.A03
namespace Go.Proofs.YtdlimikcgdgfpaaGreatDoor.A03
open Tryz renaming prog → PG
open E renaming preR → P1, postR → P2, w_join → P3, w_stop → P4, dsc → P5
open E Go.Lib
def doesB (op : Str) (a c : Int) (st : ASt) (b : Bool) : Int × ASt := if b = true then (0, st) else doesP op a c st
section
variable {σ σ' : AS} {X : Ce} {R : List Ck} {k : Value → AS → Prop} {s w : Str} {p m : Nat} {ops : List (Str × Value)} {vv u f : Value} {st : ASt} {b is : Bool} {x y : Int} {op : Str} {Q : Int → ASt → Bool → Prop}
theorem does_c (hO : OpsOk X ops) (h0 : ¬ rankOf op = 0) (h1 : ¬ rankOf op = 1) (h2 : ¬ rankOf op = 2) (hx : inI64 x) (hy : inI64 y) (h : Hs σ X (WkR p m ops vv u st b R))
    (hk : ∀ σ', Hs σ' X (WkR p m ops vv u (doesB op x y st b).2 b R) → k (.int .i64 (doesB op x y st b).1) σ') : kCall PG 193 [pvw p, .string (bs op), .int .i64 x, .int .i64 y] σ k := by
  refine f193 ?_
  unfold doesB doesP at hk
  (try simp -dsimp (disch := first|exact P5|fail) only [↓P1,P2,↓P4,Q1,Q2,Q3,Q4,Q5,Q6,Q7,Q8,Q9, F193])
  refine join_now ?_
  (try simp -dsimp (disch := first|exact P5|fail) only [↓P1,P2,↓P4,Q1,Q2,Q3,Q4,Q5,Q6,Q7,Q8,Q9])
  refine live_c h ?_
  cases b with
  | true =>
    rw [Bool.not_true, Bool.and_false]
    (try simp -dsimp (disch := first|exact P5|fail) only [↓P1,P2,↓P4,Q1,Q2,Q3,Q4,Q5,Q6,Q7,Q8,Q9])
    exact hk _ h
  | false =>
    rw [Bool.not_false, Bool.and_true]
    cases hl : st.live with
    | false =>
      rw [hl] at hk
      (try simp -dsimp (disch := first|exact P5|fail) only [↓P1,P2,↓P4,Q1,Q2,Q3,Q4,Q5,Q6,Q7,Q8,Q9])
      exact hk _ h
    | true =>
      rw [hl] at hk
      obtain ⟨fv, f1, _, f3⟩ := hO.yes _ h0
      unfold lkO at f1
      (try simp -dsimp (disch := first|exact P5|fail) only [↓P1,P2,↓P4,Q1,Q2,Q3,Q4,Q5,Q6,Q7,Q8,Q9, h.obj])
      refine lk_by (κ := Str) (k := op) (h.front 2 rfl) Tryz.underlying216 Tryz.underlying9 zero_op ?_
      rw [f1]
      (try simp -dsimp (disch := first|exact P5|fail) only [↓P1,P2,↓P4,Q1,Q2,Q3,Q4,Q5,Q6,Q7,Q8,Q9, Option.getD_some])
      refine f3 h1 h2 _ _ _ _ _ hx hy h fun s1 g1 => ?_
      have g2 := g1.put (cs' := wkC { st with fell := (doP op x y).2 } false m vv u)
      (try simp -dsimp (disch := first|exact P5|fail) only [↓P1,P2,↓P4,Q1,Q2,Q3,Q4,Q5,Q6,Q7,Q8,Q9, g1.obj])
      exact hk _ g2
theorem pass_c (hov : st.over ≤ 1000000) (h : Hs σ X (WkR p m ops vv u st b R))
    (hcall : ∀ σ1 q (k1 : Value → AS → Prop), Hs σ1 X (WkR p m ops vv u (st.pass is) b (Cel q [pvw p] :: R)) → (∀ v st' b' u' σ', Q v st' b' → Hs σ' X (WkR p m ops vv u' st' b' (Cel q [pvw p] :: R)) → k1 (.int .i64 v) σ') → kCallv PG f [] σ1 k1)
    (hQ : ∀ v st' b', Q v st' b' → st'.over = (st.pass is).over)
    (hk : ∀ v st' b' u' σ', Q v st' b' → Hs σ' X (WkR p m ops vv u' (st'.un st.over) b' R) → k (.int .i64 v) σ') :
    kCall PG 233 [pvw p, .bool is, f] σ k := by
  refine f233 ?_
  have h1 : Hs _ X (WkR p m ops vv u st b (Cel σ.n [pvw p] :: R)) := (h.new (cs := [pvw p])).un3
  (try simp -dsimp (disch := first|exact P5|fail) only [↓P1,P2,↓P4,Q1,Q2,Q3,Q4,Q5,Q6,Q7,Q8,Q9, F233])
  generalize AS.new σ _ = s1 at h1 ⊢
  generalize σ.n = q at h1 ⊢
  refine join_now ?_
  cases is with
  | true =>
    (try simp -dsimp (disch := first|exact P5|fail) only [↓P1,P2,↓P4,Q1,Q2,Q3,Q4,Q5,Q6,Q7,Q8,Q9])
    refine hcall _ _ _ h1 fun v st' b' u' s2 hq h2 => ?_
    have e : st'.un st.over = st' := by
      have := hQ _ _ _ hq
      have e2 : st.over = st'.over := this.symm
      rw [e2]; rfl
    have hkk := hk v st' b' u'
    rw [e] at hkk
    (try simp -dsimp (disch := first|exact P5|fail) only [↓P1,P2,↓P4,Q1,Q2,Q3,Q4,Q5,Q6,Q7,Q8,Q9])
    exact hkk _ hq (h2.front 3 rfl).drop
  | false =>
    have h2 := h1.put (cs' := wkC (st.pass false) b m vv u)
    have h3q := h1.obj3
    have e1 : (st.over : Int) + 1 = ((st.over + 1 : Nat) : Int) := by omega
    (try simp -dsimp (disch := first|exact P5|fail) only [↓P1,P2,↓P4,Q1,Q2,Q3,Q4,Q5,Q6,Q7,Q8,Q9, h1.obj, h3q, e1])
    refine dfr_by ?_
    (try simp -dsimp (disch := first|exact P5|fail) only [↓P1,P2,↓P4,Q1,Q2,Q3,Q4,Q5,Q6,Q7,Q8,Q9])
    refine hcall _ _ _ h2 fun v st' b' u' s2 hq h3 => ?_
    have h4 := h3.put (cs' := wkC (st'.un st.over) b' m vv u')
    have h5q := h3.obj3
    have e2 : (st'.over : Int) - 1 = (st.over : Int) := by
      have : st'.over = st.over + 1 := hQ _ _ _ hq
      omega
    (try simp -dsimp (disch := first|exact P5|fail) only [↓P1,P2,↓P4,Q1,Q2,Q3,Q4,Q5,Q6,Q7,Q8,Q9])
    refine ⟨by kernel_rfl, fnD_by (by kernel_rfl) (F266_ok _ _ _) ?_⟩
    (try simp -dsimp (disch := first|exact P5|fail) only [↓P1,P2,↓P4,Q1,Q2,Q3,Q4,Q5,Q6,Q7,Q8,Q9, F266, h3.obj, h5q, e2])
    exact hk _ _ _ _ _ hq (h4.front 3 rfl).drop
end
end Go.Proofs.YtdlimikcgdgfpaaGreatDoor.A03
namespace Go.Proofs.YtdlimikcgdgfpaaGreatDoor.A03
open Tryz renaming prog → PG
open E renaming preR → P1, postR → P2, w_join → P3, w_stop → P4, dsc → P5
open E Go.Lib
open Rp
def lookV (vars : List (Str × Str)) (name : Str) : Int × Int := valueP (((vars.find? fun p => decide (p.1 = name)).map (·.2)).getD [])
def askB (look : Str → Int × Int) (st : ASt) (b : Bool) (name : Str) : Int × ASt := if b = true then (0, st) else askP look st name
theorem pair_at {X : Ce} {u : Value} {l : List (Str × Str)} (h : RepL X u l) : ∃ a b o cap, u = .slice a l.length cap ∧ l.length ≤ cap ∧ cap ≤ maxLen ∧ ∀ i (hi : i < l.length), a = some ⟨b, o, none⟩ ∧
    X b (o + i * 2) = some (.string (bs l[i].1)) ∧ X b (o + i * 2 + 1) = some (.string (bs l[i].2)) ∧ l[i].1.length ≤ maxLen ∧ l[i].2.length ≤ maxLen := by
  obtain ⟨a, b, o, cap, h1, h2, h3, h4⟩ := h.get
  refine ⟨a, b, o, cap, h1, h2, h3, fun i hi => ?_⟩
  obtain ⟨h5, cs, ⟨x, y, rfl, ⟨rfl, hx⟩, ⟨rfl, hy⟩⟩, h7, h8⟩ := h4 i hi
  exact ⟨h5, h8 0 _ rfl, h8 1 _ rfl, hx, hy⟩
def idxN (name : Str) : List (Str × Str) → Option Nat
  | [] => none
  | p :: l => if p.1 = name then some 0 else (idxN name l).map (· + 1)
theorem idxN_c (name : Str) (p : Str × Str) (l : List (Str × Str)) : idxN name (p :: l) = if p.1 = name then some 0 else (idxN name l).map (· + 1) := rfl
theorem idxN_lt {name : Str} : ∀ {l : List (Str × Str)} {n : Nat}, idxN name l = some n → ∃ hn : n < l.length, l.find? (fun p => decide (p.1 = name)) = some l[n]
  | [], n, h => by cases h
  | p :: l, n, h => by
    unfold idxN at h
    rw [List.find?_cons]
    split at h
    · rename_i hp
      cases h
      exact ⟨by simp, by simp [hp]⟩
    · rename_i hp
      cases hq : idxN name l with
      | none => rw [hq] at h; cases h
      | some j =>
        rw [hq] at h
        cases h
        obtain ⟨h1, h2⟩ := idxN_lt hq
        refine ⟨by simp; omega, ?_⟩
        simp only [decide_eq_false hp]
        exact h2
theorem idxN_no {name : Str} : ∀ {l : List (Str × Str)}, idxN name l = none → l.find? (fun p => decide (p.1 = name)) = none
  | [], _ => rfl
  | p :: l, h => by
    unfold idxN at h
    rw [List.find?_cons]
    split at h
    · cases h
    · rename_i hp
      simp only [decide_eq_false hp]
      refine idxN_no ?_
      cases hq : idxN name l with
      | none => rfl
      | some j => rw [hq] at h; cases h
def lastN (name : Str) (l : List (Str × Str)) (v : Str) : Str := l.foldl (fun v p => if p.1 = name then p.2 else v) v
theorem lastN_snoc (name : Str) (l : List (Str × Str)) (p : Str × Str) (v : Str) : lastN name (l ++ [p]) v = if p.1 = name then p.2 else lastN name l v := by
  unfold lastN; rw [List.foldl_append]; rfl
theorem lookS_snoc (l : List (Str × Int)) (p : Str × Int) (name : Str) : lookS (l ++ [p]) name = if p.1 = name then some p.2 else lookS l name := by
  unfold lookS
  rw [List.reverse_append]
  show ((p :: l.reverse).find? _).map _ = _
  rw [List.find?_cons]
  by_cases h : p.1 = name
  · simp [h]
  · simp [h]
theorem lastN_look (name v : Str) : ∀ (n : Nat) (l : List (Str × Int)), l.length = n → lastN name (l.map fun q => (q.1, itoa q.2)) v = match lookS l name with | some n => itoa n | none => v
  | 0, l, h => by
    have : l = [] := List.length_eq_zero_iff.1 h
    subst this; rfl
  | n + 1, l, h => by
    obtain ⟨r, p, rfl⟩ : ∃ r p, l = r ++ [p] := ⟨l.dropLast, l.getLast (by intro e; subst e; simp at h), (List.dropLast_concat_getLast _).symm⟩
    rw [List.map_append, List.map_singleton, lastN_snoc, lookS_snoc, lastN_look name v n r (by simp at h; omega)]
    by_cases hp : p.1 = name
    · simp only [hp, if_true]
    · simp only [hp, if_false]
theorem dec_len : ∀ (k u : Nat), u < 10 ^ (k + 1) → (decDigits u).length ≤ k + 1 := by
  intro k
  induction k with
  | zero =>
    intro u h
    rw [decDigits, dif_pos (by simpa using h)]
    simp
  | succ k ih =>
    intro u h
    rw [decDigits]
    split
    · simp
    · have := ih (u / 10) (by rw [Nat.pow_succ] at h; omega)
      rw [List.length_append, List.length_singleton]
      omega
theorem itoa_len {n : Int} (h : inI64 n) : (itoa n).length ≤ 20 := by
  unfold inI64 at h
  unfold itoa
  split
  · have := dec_len 18 n.natAbs (by omega)
    rw [List.length_cons]; omega
  · have := dec_len 18 n.toNat (by omega)
    omega
section
variable {σ σ' : AS} {X : Ce} {R : List Ck} {k : Value → AS → Prop} {name : Str} {p m q i : Nat} {ops : List (Str × Value)} {vv u f : Value} {st : ASt} {b is : Bool} {vars : List (Str × Str)}
theorem isname_c {x y : Str} (h : Hs σ X R) (hq : R[i]? = some (Cel q [.string (bs name)])) (hk : ∀ σ', Hs σ' X R → k (.bool (decide (x = name))) σ') :
    kCall PG 234 [.agg #[.string (bs x), .string (bs y)], .pointer (some ⟨q, 0, none⟩)] σ k := by
  refine f234 ?_
  have hn := (h.front i hq).obj
  have hlt := (h.front i hq).lt
  have h1 := h.junk (.cells [.string (bs x), .string (bs y)])
  have hne : ¬ q = σ.n := by omega
  (try simp -dsimp (disch := first|exact P5|fail) only [↓P1,P2,↓P4,Q1,Q2,Q3,Q4,Q5,Q6,Q7,Q8,Q9, F234, hn, hne])
  exact hk _ h1
theorem idxf_c (hr : RepL X vv vars) (h : Hs σ X R) (hq : R[i]? = some (Cel q [.string (bs name)])) (hk : ∀ σ', Hs σ' X R → k (.int .i64 (match idxN name vars with | some n => (n : Int) | none => -1)) σ') :
    kCall PG 235 [vv, .func (.func 234) #[] #[.pointer (some ⟨q, 0, none⟩)]] σ k := by
  obtain ⟨va, vb, vo, vcap, rfl, hc, hm, hat⟩ := pair_at hr
  unfold maxLen at hm
  refine f235 ?_
  (try simp -dsimp (disch := first|exact P5|fail) only [↓P1,P2,↓P4,Q1,Q2,Q3,Q4,Q5,Q6,Q7,Q8,Q9, F235])
  refine join_now ?_
  (try simp -dsimp (disch := first|exact P5|fail) only [↓P1,P2,↓P4,Q1,Q2,Q3,Q4,Q5,Q6,Q7,Q8,Q9])
  refine loop_inv (fun nn xs s1 => ∃ j : Nat, xs = [.int .i64 j] ∧ Hs s1 X R ∧ j ≤ vars.length ∧ idxN name vars = (idxN name (vars.drop j)).map (· + j) ∧ nn = vars.length - j) _ ⟨0, rfl, h, Nat.zero_le _, by simp, rfl⟩ ?_
  rintro _ _ s1 again ⟨j, rfl, h1, hj, hpre, rfl⟩ hag
  (try simp -dsimp (disch := first|exact P5|fail) only [↓P1,P2,↓P4,Q1,Q2,Q3,Q4,Q5,Q6,Q7,Q8,Q9])
  refine join_now ?_
  by_cases hlt : j < vars.length
  · obtain ⟨rfl, c0, c1, _, _⟩ := hat j hlt
    have g0 := h1.ldx c0
    have g1 := h1.ldx c1
    (try simp -dsimp (disch := first|exact P5|fail) only [↓P1,P2,↓P4,Q1,Q2,Q3,Q4,Q5,Q6,Q7,Q8,Q9])
    refine join_now ?_
    (try simp -dsimp (disch := first|exact P5|fail) only [↓P1,P2,↓P4,Q1,Q2,Q3,Q4,Q5,Q6,Q7,Q8,Q9, g0, g1])
    refine callv_by (a := []) (b := [.pointer (some ⟨q, 0, none⟩)]) (by kernel_rfl) (isname_c h1 hq fun s2 h2 => ?_)
    rw [List.drop_eq_getElem_cons hlt, idxN_c] at hpre
    by_cases hn : vars[j].1 = name
    · rw [if_pos hn] at hpre
      rw [hpre] at hk
      (try simp -dsimp (disch := first|exact P5|fail) only [↓P1,P2,↓P4,Q1,Q2,Q3,Q4,Q5,Q6,Q7,Q8,Q9, hn])
      simpa using hk _ h2
    · rw [if_neg hn] at hpre
      (try simp -dsimp (disch := first|exact P5|fail) only [↓P1,P2,↓P4,Q1,Q2,Q3,Q4,Q5,Q6,Q7,Q8,Q9, hn])
      refine hag _ _ _ ⟨j + 1, rfl, h2, hlt, ?_, rfl⟩ (by omega)
      rw [hpre]
      cases idxN name (vars.drop (j + 1)) with
      | none => rfl
      | some n => simp; omega
  · rw [List.drop_of_length_le (by omega)] at hpre
    rw [hpre] at hk
    (try simp -dsimp (disch := first|exact P5|fail) only [↓P1,P2,↓P4,Q1,Q2,Q3,Q4,Q5,Q6,Q7,Q8,Q9])
    exact hk _ h1
theorem pair_own {L : List (Str × Str)} {n : Nat} (h : Hs σ X (E.Own u L :: R)) (hn : n < L.length) : ∃ g c ys, u = .slice (some ⟨g, 0, none⟩) L.length c ∧ L.length ≤ c ∧ c ≤ maxLen ∧ σ.m g = some (.cells ys) ∧
    ys[n * 2]? = some (.string (bs L[n].1)) ∧ ys[n * 2 + 1]? = some (.string (bs L[n].2)) := by
  obtain ⟨g, c, cs, ys, h1, h2, h3, ⟨x, y, rfl, ⟨rfl, hx⟩, ⟨rfl, hy⟩⟩, h5, h6, h7, h8⟩ := Own.cell h hn
  exact ⟨g, c, ys, h1, h2, h3, h5, h7 0 _ rfl, h7 1 _ rfl⟩
structure VarsI (X : Ce) (vv : Value) (vars : List (Str × Str)) : Prop where
  r : RepL X vv vars
  l : ∀ p, p ∈ vars → p.2.length ≤ 1000000
structure ErrI (X : Ce) : Prop where
  s : ∃ te pe, X 4 0 = some (.iface te pe)
  r : ∃ te pe, X 5 0 = some (.iface te pe)
theorem ask_c {B : Nat} (hV : VarsI X vv vars) (hE : ErrI X) (hI : SetsI B st.sets) (h : Hs σ X (WkR p m ops vv u st b R))
    (hk : ∀ σ', Hs σ' X (WkR p m ops vv u (askB (lookV vars) st b name).2 b R) → k (.int .i64 (askB (lookV vars) st b name).1) σ') :
    kCall PG 194 [pvw p, .string (bs name)] σ k := by
  obtain ⟨te1, pe1, hS⟩ := hE.s
  obtain ⟨te2, pe2, hR⟩ := hE.r
  refine f194 ?_
  have h1 : Hs _ X (WkR p m ops vv u st b (Cel σ.n [.string (bs name)] :: R)) := (h.new (cs := [.string (bs name)])).un3
  (try simp -dsimp (disch := first|exact P5|fail) only [↓P1,P2,↓P4,Q1,Q2,Q3,Q4,Q5,Q6,Q7,Q8,Q9, F194])
  generalize AS.new σ _ = s1 at h1 ⊢
  generalize σ.n = q at h1 ⊢
  refine join_now ?_
  (try simp -dsimp (disch := first|exact P5|fail) only [↓P1,P2,↓P4,Q1,Q2,Q3,Q4,Q5,Q6,Q7,Q8,Q9])
  refine live_c h1 ?_
  unfold askB askP at hk
  cases b with
  | true =>
    rw [Bool.not_true, Bool.and_false]
    (try simp -dsimp (disch := first|exact P5|fail) only [↓P1,P2,↓P4,Q1,Q2,Q3,Q4,Q5,Q6,Q7,Q8,Q9])
    exact hk _ (h1.front 3 rfl).drop
  | false =>
    rw [Bool.not_false, Bool.and_true]
    cases hl : st.live with
    | false =>
      rw [hl] at hk
      (try simp -dsimp (disch := first|exact P5|fail) only [↓P1,P2,↓P4,Q1,Q2,Q3,Q4,Q5,Q6,Q7,Q8,Q9])
      exact hk _ (h1.front 3 rfl).drop
    | true =>
      rw [hl] at hk
      have hfell : st.fell = 0 := by
        unfold ASt.live at hl
        simp at hl
        exact hl.2
      simp only [if_true, Bool.false_eq_true, if_false] at hk
      (try simp -dsimp (disch := first|exact P5|fail) only [↓P1,P2,↓P4,Q1,Q2,Q3,Q4,Q5,Q6,Q7,Q8,Q9, h1.obj])
      refine join_by fun J2 hJ2 => ?_
      (try simp -dsimp (disch := first|exact P5|fail) only [↓P1,P2,↓P4,Q1,Q2,Q3,Q4,Q5,Q6,Q7,Q8,Q9, h1.obj])
      refine idxf_c hV.r h1 (i := 3) rfl fun s2 h2 => ?_
      have tail : ∀ v0 : Str, v0 = ((vars.find? fun p => decide (p.1 = name)).map (·.2)).getD [] → v0.length ≤ 1000000 → J2 [.string (bs v0)] s2 := by
        intro v0 hv0 hvl
        refine hJ2 _ _ ?_
        clear hJ2
        obtain ⟨ux, uc, rfl, huc⟩ := h2.own1
        have hlen : (setsT st).length = st.sets.length := by simp
        (try simp -dsimp (disch := first|exact P5|fail) only [↓P1,P2,↓P4,Q1,Q2,Q3,Q4,Q5,Q6,Q7,Q8,Q9, h2.obj])
        refine join_by fun J3 hJ3 => ?_
        have tail3 : ∀ s3, Hs s3 X (WkR p m ops vv (.slice ux (setsT st).length uc) st false (Cel q [.string (bs name)] :: R)) → J3 [.string (bs (lastN name (setsT st) v0))] s3 := by
          intro s3 h3
          refine hJ3 _ _ ?_
          clear hJ3
          rw [lastN_look name v0 _ st.sets rfl]
          cases hls : lookS st.sets name with
          | some n =>
            rw [hls] at hk
            have hn := look_in hI hls
            have hv := val_itoa hn
            (try simp -dsimp (disch := first|exact P5|fail) only [↓P1,P2,↓P4,Q1,Q2,Q3,Q4,Q5,Q6,Q7,Q8,Q9])
            refine value_c hS hR (by have := itoa_len hn; omega) h3 fun s4 h4 => ?_
            rw [hv]
            have h5 := h4.put (cs' := wkC st false m vv (.slice ux (setsT st).length uc))
            rw [← hfell]
            (try simp -dsimp (disch := first|exact P5|fail) only [↓P1,P2,↓P4,Q1,Q2,Q3,Q4,Q5,Q6,Q7,Q8,Q9, h4.obj])
            exact hk _ (h5.front 3 rfl).drop
          | none =>
            rw [hls] at hk
            (try simp -dsimp (disch := first|exact P5|fail) only [↓P1,P2,↓P4,Q1,Q2,Q3,Q4,Q5,Q6,Q7,Q8,Q9])
            refine value_c hS hR hvl h3 fun s4 h4 => ?_
            have h5 := h4.put (cs' := wkC { st with fell := (valueP v0).2 } false m vv (.slice ux (setsT st).length uc))
            have elv : lookV vars name = valueP v0 := by unfold lookV; rw [← hv0]
            simp only [elv] at hk
            (try simp -dsimp (disch := first|exact P5|fail) only [↓P1,P2,↓P4,Q1,Q2,Q3,Q4,Q5,Q6,Q7,Q8,Q9, h4.obj])
            exact hk _ (h5.front 3 rfl).drop
        clear hJ3
        (try simp -dsimp (disch := first|exact P5|fail) only [↓P1,P2,↓P4,Q1,Q2,Q3,Q4,Q5,Q6,Q7,Q8,Q9, h2.obj])
        refine loop_inv (fun nn xs s3 => ∃ j : Nat, xs = [.string (bs (lastN name ((setsT st).take j) v0)), .int .i64 j] ∧ j ≤ (setsT st).length ∧ Hs s3 X (WkR p m ops vv (.slice ux (setsT st).length uc) st false (Cel q [.string (bs name)] :: R)) ∧ nn = (setsT st).length - j) _ ⟨0, rfl, Nat.zero_le _, h2, rfl⟩ ?_
        rintro _ _ s3 again ⟨j, rfl, hj, h3, rfl⟩ hag
        (try simp -dsimp (disch := first|exact P5|fail) only [↓P1,P2,↓P4,Q1,Q2,Q3,Q4,Q5,Q6,Q7,Q8,Q9])
        refine join_now ?_
        by_cases hlt : j < (setsT st).length
        rotate_left
        · (try simp -dsimp (disch := first|exact P5|fail) only [↓P1,P2,↓P4,Q1,Q2,Q3,Q4,Q5,Q6,Q7,Q8,Q9])
          have := tail3 _ h3
          rw [List.take_of_length_le (by omega)]
          exact this
        · obtain ⟨g, c, ys, e1, hlc, hcm, hym, y0, y1⟩ := pair_own h3.drop hlt
          injection e1 with e1 _ e2
          subst e1
          subst e2
          unfold maxLen at hcm
          have h4 := h3.new (cs := [Value.string (bs []), Value.string (bs [])])
          have h5 := h4.put (cs' := [Value.string (bs (setsT st)[j].1), Value.string (bs (setsT st)[j].2)])
          have ht := List.take_append_getElem hlt
          have hst := lastN_snoc name ((setsT st).take j) (setsT st)[j] v0
          rw [ht] at hst
          generalize (setsT st)[j] = pr at y0 y1 h5 hst
          (try simp -dsimp (disch := first|exact P5|fail) only [↓P1,P2,↓P4,Q1,Q2,Q3,Q4,Q5,Q6,Q7,Q8,Q9])
          refine join_now ?_
          (try simp -dsimp (disch := first|exact P5|fail) only [↓P1,P2,↓P4,Q1,Q2,Q3,Q4,Q5,Q6,Q7,Q8,Q9, hym, y0, y1])
          generalize AS.put _ _ _ = s5 at h5 ⊢
          generalize s3.n = q9 at h5 ⊢
          (try simp -dsimp (disch := first|exact P5|fail) only [↓P1,P2,↓P4,Q1,Q2,Q3,Q4,Q5,Q6,Q7,Q8,Q9, h5.obj])
          refine callv_by (a := []) (b := [.pointer (some ⟨q, 0, none⟩)]) (by kernel_rfl) (isname_c (i := 4) h5 rfl fun s6 h6 => ?_)
          by_cases hn : pr.1 = name
          · rw [if_pos hn] at hst
            (try simp -dsimp (disch := first|exact P5|fail) only [↓P1,P2,↓P4,Q1,Q2,Q3,Q4,Q5,Q6,Q7,Q8,Q9, hn, h6.obj])
            exact hag _ _ _ ⟨j + 1, by rw [hst]; rfl, hlt, h6.drop, rfl⟩ (by omega)
          · rw [if_neg hn] at hst
            (try simp -dsimp (disch := first|exact P5|fail) only [↓P1,P2,↓P4,Q1,Q2,Q3,Q4,Q5,Q6,Q7,Q8,Q9, hn])
            exact hag _ _ _ ⟨j + 1, by rw [hst]; rfl, hlt, h6.drop, rfl⟩ (by omega)
      clear hJ2
      cases hx : idxN name vars with
      | none =>
        rw [idxN_no hx] at tail
        (try simp -dsimp (disch := first|exact P5|fail) only [↓P1,P2,↓P4,Q1,Q2,Q3,Q4,Q5,Q6,Q7,Q8,Q9, h2.obj])
        exact tail [] rfl (by simp)
      | some n =>
        obtain ⟨hn, hf⟩ := idxN_lt hx
        rw [hf] at tail
        obtain ⟨va, vb, vo, vcap, rfl, hc, hm, hat⟩ := pair_at hV.r
        unfold maxLen at hm
        obtain ⟨rfl, c0, c1, _, _⟩ := hat n hn
        have g1 := h2.ldx c1
        (try simp -dsimp (disch := first|exact P5|fail) only [↓P1,P2,↓P4,Q1,Q2,Q3,Q4,Q5,Q6,Q7,Q8,Q9, h2.obj, g1])
        exact tail _ rfl (hV.l _ (List.getElem_mem hn))
end
end Go.Proofs.YtdlimikcgdgfpaaGreatDoor.A03
namespace Go.Proofs.YtdlimikcgdgfpaaGreatDoor
open Tryz renaming prog → PG
open E renaming preR → P1, postR → P2, w_join → P3, w_stop → P4, dsc → P5
open E Go.Lib
abbrev powV : Array Value := (Lib.pow10Tab.map fun z => Value.int .u64 z).toArray
section
variable {σ σ' : AS} {X : Ce} {R : List Ck} {k : Value → AS → Prop} {n : Int} {g : Nat} {o : Go.Obj}
theorem stays_behind (w : World) (q : Nat) (os : Array Go.Obj) : RowKit.Below w.heap.size w (Go.Sort.grow (w.drewN q) os) := by
  refine ⟨rfl, rfl, rfl, by simp [Go.Sort.grow], fun i hi => ?_⟩
  have e : (Go.Sort.grow (w.drewN q) os).heap = w.heap ++ os := rfl
  rw [e, Array.getElem?_append_left hi]
theorem text_c (T : VarAt PG "internal/strconv.uint64pow10" g o powV) (hn : inI64 n) (i : Nat) (h : Hs σ X R) (hg : R[i]? = some (Oth g o)) (hk : ∀ σ', Hs σ' X R → k (.string (bs (itoa n))) σ') : kCall PG 103 [.int .i64 n] σ k := by
  refine f103 ?_
  (simp -dsimp (disch := first|exact P5|fail) only [↓P1,P2,↓P3,Q1,Q2,Q3,Q4,Q5,Q6,Q7,Q8,Q9, F103])
  refine below_by (v := .string (bs (itoa n))) (fun w hw => ?_) (fun j => ?_)
  · have ht : Lib.TabIs PG w "internal/strconv.uint64pow10" .u64 Lib.pow10Tab := T.var ((h.front i hg).heapT hw)
    refine Calls.mono (Any.strconv_Itoa Tryz.lays171 n hn.1 hn.2 w ht) fun e w' ⟨he, kk, os, hw'⟩ => ⟨he, ?_⟩
    subst hw'
    exact stays_behind w kk os
  · exact hk _ (h.up j)
end
end Go.Proofs.YtdlimikcgdgfpaaGreatDoor
namespace Go.Proofs.YtdlimikcgdgfpaaGreatDoor
open Tryz renaming prog → PG
open E renaming preR → P1, postR → P2, w_join → P3, w_stop → P4, dsc → P5
open E Go.Lib
theorem errName (u : TypeId) (h : PG.typeName? 3 u = some "*errors.errorString") : u = 347 :=
  typeName_ptr_named (nm := "errors.errorString") (by rw [show "*" ++ "errors.errorString" = "*errors.errorString" from by decide]; kernel_rfl) (by kernel_rfl) (by decide) u (by rw [show "*" ++ "errors.errorString" = "*errors.errorString" from by decide]; exact h)
section
variable {W : World} {r : List (String × DataW Unit)} {n : String} {text : List UInt8} {g te : Nat} {o : Go.Obj} {pe : Value}
theorem err_at (hg : PG.globalNamed n = some g) (ht : (PG.globals[g]?).map (·.type) = some 190) (h : laidMet PG ((n, .iface "*errors.errorString" (.ptr (.agg [.lit (.string text)]))) :: r) W) : ∃ te pe, W.cell? ⟨g, 0, none⟩ = some (.iface te pe) := by
  obtain ⟨a, s, h1, _⟩ := laid_sentinel h hg ht Tryz.underlying190 errName Tryz.underlying347 Tryz.underlying349 rfl rfl Tryz.underlying9 (by kernel_rfl) (by kernel_rfl)
  exact ⟨_, _, by simpa using World.var?_cell hg h1 0⟩
theorem pow_at (h : laidMet PG (("internal/strconv.uint64pow10", Lib.tabData .u64 Lib.pow10Tab) :: r) W) : ∃ g o, VarAt PG "internal/strconv.uint64pow10" g o powV ∧ W.heap[g]? = some o :=
  VarAt.of (Lib.tabIs_of_head (g := 3) (by kernel_rfl) (t := 331) (by kernel_rfl) Tryz.underlying331 Tryz.underlying235 (by kernel_rfl) (by kernel_rfl) h)
theorem pow_u (T : VarAt PG "internal/strconv.uint64pow10" g o powV) (ho : W.heap[g]? = some o) {g' i : Nat} {v : Value} (hg : g' ∈ [g]) (hv : W.cell? ⟨g', i, none⟩ = some v) : ∃ z, v = .int .u64 z := by
  simp only [List.mem_singleton] at hg
  subst hg
  have := T.cell ho hv
  simp only [powV, List.mem_map] at this
  obtain ⟨z, _, rfl⟩ := this
  exact ⟨z, rfl⟩
theorem pow_no (T : VarAt PG "internal/strconv.uint64pow10" g o powV) (ho : W.heap[g]? = some o) {g' i : Nat} {v : Value} (hg : g' ∈ [g]) (hv : W.cell? ⟨g', i, none⟩ = some v) : ¬ dataV v := by
  obtain ⟨z, rfl⟩ := pow_u T ho hg hv
  exact id
theorem err_in {e : Nat} (T : VarAt PG "internal/strconv.uint64pow10" g o powV) (ho : W.heap[g]? = some o) (hE : W.cell? ⟨e, 0, none⟩ = some (.iface te pe)) : (startT W [g]).c e 0 = some (.iface te pe) := by
  have hne : e ∉ [g] := fun h => by
    obtain ⟨z, hz⟩ := pow_u T ho h hE
    cases hz
  show (if e ∈ [g] then none else W.cell? ⟨e, 0, none⟩) = _
  rw [if_neg hne]
  exact hE
end
end Go.Proofs.YtdlimikcgdgfpaaGreatDoor
