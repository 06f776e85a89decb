/- Arithmetic, as plain data: numbers of words, values, what an expression is and what it sets. Conditions: none. -/
import Derived.Test.YtkbpbagjbjkpmaaGreatDoorNm
import Derived.Lib.SlTrimSet
import Derived.Lib.ItoaNum
namespace Go.Proofs.YtkbpbagjbjkpmaaGreatDoor
open E Go.Lib
set_option linter.unusedVariables false
set_option linter.unusedSimpArgs false
set_option maxHeartbeats 1000000
set_option maxRecDepth 20000

abbrev blk3 : Str := [32, 9, 10]
def skipB (s : Str) : Str := trimLeftS s blk3
/-! ### Numbers -/
def digV (c : UInt8) : Nat := if 48 ≤ c.toNat ∧ c.toNat ≤ 57 then c.toNat - 48 else if 97 ≤ c.toNat ∧ c.toNat ≤ 102 then c.toNat - 87 else if 65 ≤ c.toNat ∧ c.toNat ≤ 70 then c.toNat - 55 else 99
def valB (base : Nat) : Str → Nat → Option Nat
  | [], a => some a
  | c :: t, a => if digV c < base then valB base t (a * base + digV c) else none
/-- A word's number. -/
def numP (w : Str) : Option Nat := match w with
  | [] => none
  | [c] => valB 10 [c] 0
  | c :: x :: t =>
    if c = 48 then
      (if (x = 120 ∨ x = 88) ∧ t ≠ [] then valB 16 t 0 else valB 8 (x :: t) 0)
    else valB 10 (c :: x :: t) 0
/-- A variable's value: its number, or an error. -/
def valueP (s : Str) : Int × Int := match trimS s blk3 with
  | [] => (0, 0)
  | c :: t =>
    match numP (if c = 43 ∨ c = 45 then t else c :: t) with
    | none => (0, 10)
    | some n => if c = 45 then (if 9223372036854775808 < n then (0, 10) else (-(n : Int), 0)) else (if 9223372036854775808 ≤ n then (0, 10) else ((n : Int), 0))
/-! ### Operators -/
def rankOf (op : Str) : Nat := match op with
  | [124, 124] => 1
  | [38, 38] => 2
  | [124] => 3
  | [94] => 4
  | [38] => 5
  | [61, 61] => 6
  | [33, 61] => 6
  | [60] => 7
  | [60, 61] => 7
  | [62] => 7
  | [62, 61] => 7
  | [60, 60] => 8
  | [62, 62] => 8
  | [43] => 9
  | [45] => 9
  | [42] => 10
  | [47] => 10
  | [37] => 10
  | _ => 0
def asgn (op : Str) : Bool := match op with
  | [61] => true
  | [43, 61] => true
  | [45, 61] => true
  | [42, 61] => true
  | [47, 61] => true
  | [37, 61] => true
  | _ => false
/-- The longest operator here. -/
def nextP (l : Str) : Str := match l with
  | [] => []
  | [a] => [a]
  | a :: b :: _ => if rankOf [a, b] ≠ 0 ∨ asgn [a, b] = true then [a, b] else [a]
def truthI (b : Bool) : Int := if b = true then 1 else 0
def wI (n : Int) : Int := IntKind.i64.wrap n
def bI (op : BinOp) (a b : Int) : Int := match intV op .i64 a b with
  | some (.int _ n) => n
  | _ => 0
def shI (op : BinOp) (a b : Int) : Int := match shV op .i64 a (b % 64) with
  | some (.int _ n) => n
  | _ => 0
def lowI : Int := -9223372036854775808
/-- What an operator makes of two sides. -/
def doP (op : Str) (a b : Int) : Int × Int := match op with
  | [124] => (bI .or a b, 0)
  | [94] => (bI .xor a b, 0)
  | [38] => (bI .and a b, 0)
  | [61, 61] => (truthI (decide (a = b)), 0)
  | [33, 61] => (truthI (decide (¬ a = b)), 0)
  | [60] => (truthI (decide (a < b)), 0)
  | [60, 61] => (truthI (decide (a ≤ b)), 0)
  | [62] => (truthI (decide (b < a)), 0)
  | [62, 61] => (truthI (decide (b ≤ a)), 0)
  | [60, 60] => (shI .shl a b, 0)
  | [62, 62] => (shI .shr a b, 0)
  | [43] => (wI (a + b), 0)
  | [45] => (wI (a - b), 0)
  | [42] => (wI (a * b), 0)
  | [47] => if b = 0 then (0, 13) else if a = lowI ∧ b = -1 then (lowI, 0) else (wI (a.tdiv b), 0)
  | [37] => if b = 0 then (0, 13) else if a = lowI ∧ b = -1 then (0, 0) else (a.tmod b, 0)
  | _ => (0, 0)
/-! ### Expressions -/
structure ASt where
  left : Str
  over : Nat
  fell : Int
  sets : List (Str × Int)
def ASt.live (st : ASt) : Bool := decide (st.over = 0) && decide (st.fell = 0)
def ASt.skip (st : ASt) : ASt := { st with left := skipB st.left }
def ASt.at (st : ASt) (l : Str) : ASt := { st with left := l }
def ASt.pass (st : ASt) (is : Bool) : ASt := { st with over := if is = true then st.over else st.over + 1 }
def ASt.un (st : ASt) (n : Nat) : ASt := { st with over := n }
def lookS (l : List (Str × Int)) (name : Str) : Option Int := (l.reverse.find? fun p => decide (p.1 = name)).map (·.2)
def askP (look : Str → Int × Int) (st : ASt) (name : Str) : Int × ASt :=
  if st.live = true then
    (match lookS st.sets name with
    | some n => (n, st)
    | none => ((look name).1, { st with fell := (look name).2 }))
  else (0, st)
def doesP (op : Str) (a b : Int) (st : ASt) : Int × ASt := if st.live = true then ((doP op a b).1, { st with fell := (doP op a b).2 }) else (0, st)
def pushP (st : ASt) (name : Str) (v : Int) : ASt := if st.live = true then { st with sets := st.sets ++ [(name, v)] } else st
inductive Md where
  | set | choice | rank (r : Nat) | loop (r : Nat) (a : Int) | opnd
def ev (look : Str → Int × Int) : Nat → Md → ASt → Option (Int × ASt)
  | 0, _, _ => none
  | f + 1, .set, s0 =>
    let st := s0.skip
    let n := frontF 0 st.left
    let rest := skipB (st.left.drop n)
    if n ≠ 0 ∧ asgn (nextP rest) = true then
      (match ev look f .set (st.at (rest.drop (nextP rest).length)) with
      | none => none
      | some (v, s2) =>
        let r := if nextP rest = [61] then (v, s2) else doesP ((nextP rest).take 1) (askP look s2 (st.left.take n)).1 v (askP look s2 (st.left.take n)).2
        some (r.1, pushP r.2 (st.left.take n) r.1))
    else ev look f .choice st
  | f + 1, .choice, st =>
    (match ev look f (.rank 1) st with
    | none => none
    | some (c, s1) =>
      match skipB s1.left with
      | 63 :: t =>
        (match ev look f .set ((s1.at t).pass (decide (¬ c = 0))) with
        | none => none
        | some (a, s2) =>
          match skipB s2.left with
          | 58 :: t2 =>
            (match ev look f .choice (((s2.un s1.over).at t2).pass (decide (c = 0))) with
            | none => none
            | some (b, s3) => some (if c = 0 then b else a, s3.un s1.over))
          | _ => none)
      | _ => some (c, s1.skip))
  | f + 1, .rank r, st =>
    if 10 < r then ev look f .opnd st else
      match ev look f (.rank (r + 1)) st with
      | none => none
      | some (a, s1) => ev look f (.loop r a) s1
  | f + 1, .loop r a, s0 =>
    let st := s0.skip
    let op := nextP st.left
    if rankOf op = r ∧ r ≠ 0 then
      (match ev look f (.rank (r + 1)) ((st.at (st.left.drop op.length)).pass (if r = 1 then decide (a = 0) else if r = 2 then decide (¬ a = 0) else true)) with
      | none => none
      | some (b, s2) =>
        if r = 1 then ev look f (.loop r (truthI (decide (¬ a = 0) || decide (¬ b = 0)))) (s2.un st.over)
        else if r = 2 then ev look f (.loop r (truthI (decide (¬ a = 0) && decide (¬ b = 0)))) (s2.un st.over)
        else ev look f (.loop r (doesP op a b (s2.un st.over)).1) (doesP op a b (s2.un st.over)).2)
    else some (a, st)
  | f + 1, .opnd, s0 =>
    let st := s0.skip
    match st.left with
    | [] => none
    | c :: t =>
      if c = 43 ∨ c = 45 ∨ c = 33 ∨ c = 126 then
        (match ev look f .opnd (st.at t) with
        | none => none
        | some (n, s1) => some (if c = 45 then wI (0 - n) else if c = 33 then truthI (decide (n = 0)) else if c = 126 then -n - 1 else n, s1))
      else if c = 40 then
        (match ev look f .set (st.at t) with
        | none => none
        | some (n, s1) =>
          match skipB s1.left with
          | 41 :: t2 => some (n, s1.at t2)
          | _ => none)
      else if alphaB c = true then some (askP look (st.at ((c :: t).drop (frontF 0 (c :: t)))) ((c :: t).take (frontF 0 (c :: t))))
      else if digitB c = true then
        (match numP ((c :: t).take (frontF 1 (c :: t))) with
        | none => none
        | some n => if 9223372036854775808 ≤ n then none else some ((n : Int), st.at ((c :: t).drop (frontF 1 (c :: t)))))
      else none
def evF (s : Str) : Nat := 20 * s.length + 40
/-- An expression's number, what it sets, or what is wrong. -/
def evalP (look : Str → Int × Int) (s : Str) : Int × List (Str × Int) × Int :=
  if 4096 < s.length then (0, [], 3)
  else if skipB s = [] then (0, [], 0)
  else match ev look (evF s) .set ⟨skipB s, 0, 0, []⟩ with
    | none => (0, [], 10)
    | some (n, st) => if ¬ skipB st.left = [] then (0, [], 10) else if ¬ st.fell = 0 then (0, [], st.fell) else (n, st.sets, 0)
abbrev noLook : Str → Int × Int := fun _ => (0, 0)
theorem ax1 : evalP noLook [49, 32, 43, 32, 50, 32, 42, 32, 51] = (7, [], 0) := by kernel_rfl
theorem ax2 : evalP (fun _ => (5, 0)) [121, 32, 61, 32, 120, 32, 60, 60, 32, 49] = (10, [([121], 10)], 0) := by kernel_rfl
theorem ax3 : evalP noLook [48, 32, 38, 38, 32, 49, 32, 47, 32, 48] = (0, [], 0) := by kernel_rfl
theorem ax4 : evalP noLook [49, 32, 47, 32, 48] = (0, [], 13) := by kernel_rfl
theorem ax5 : evalP (fun _ => (5, 0)) [120, 32, 62, 32, 51, 32, 63, 32, 120, 32, 58, 32, 45, 120] = (5, [], 0) := by kernel_rfl
theorem ax6 (a b : Int) : evalP (fun n => if n = [97] then (a, 0) else if n = [98] then (b, 0) else (0, 0)) [97, 32, 43, 32, 98] = (wI (a + b), [], 0) := by kernel_rfl
end Go.Proofs.YtkbpbagjbjkpmaaGreatDoor

/- Arithmetic, as plain data: what stays in bounds. Conditions: none. -/
namespace Go.Proofs.YtkbpbagjbjkpmaaGreatDoor
open E Go.Lib
set_option linter.unusedVariables false
set_option linter.unusedSimpArgs false
set_option maxHeartbeats 1000000
set_option maxRecDepth 20000

theorem skip_len (s : Str) : (skipB s).length ≤ s.length := (List.dropWhile_sublist _).length_le
theorem wI_in (n : Int) : inI64 (wI n) := by
  unfold wI; rw [IntKind.wrap_i64]; unfold inI64; omega
theorem truth_in (b : Bool) : inI64 (truthI b) := by cases b <;> (unfold truthI inI64; decide)
theorem bI_in (op : BinOp) (a b : Int) (h : op = .or ∨ op = .xor ∨ op = .and) : inI64 (bI op a b) := by
  rcases h with rfl | rfl | rfl <;> exact wI_in _
theorem fdiv_in {a d : Int} (ha : inI64 a) (hd : 1 ≤ d) : inI64 (a.fdiv d) := by
  unfold inI64 at *
  rw [Int.fdiv_eq_ediv_of_nonneg a (by omega)]
  by_cases h : 0 ≤ a
  · have h1 := Int.ediv_nonneg h (show 0 ≤ d by omega)
    have h2 := Int.ediv_le_self d h
    omega
  · have h1 : a * d ≤ a := by
      have := Int.mul_le_mul_of_nonpos_left (a := a) (show a ≤ 0 by omega) hd
      omega
    have h2 : a ≤ a / d := Int.le_ediv_of_mul_le (by omega) h1
    have h3 : a / d < 0 := Int.ediv_neg_of_neg_of_pos (by omega) (by omega)
    omega
theorem two_pow_pos (n : Nat) : (1 : Int) ≤ 2 ^ n := by
  have : (0 : Int) < 2 ^ n := Int.pow_pos (by decide)
  omega
theorem shI_in (op : BinOp) (a b : Int) (ha : inI64 a) : inI64 (shI op a b) := by
  unfold shI
  split
  · rename_i n hn
    unfold shV at hn
    split at hn
    · cases hn
    · split at hn
      · injection hn with hn; injection hn with _ hn; subst hn; exact wI_in _
      · injection hn with hn; injection hn with _ hn; subst hn; exact fdiv_in ha (two_pow_pos _)
      · cases hn
  · unfold inI64; omega
theorem tmod_in {a b : Int} (ha : inI64 a) : inI64 (a.tmod b) := by
  unfold inI64 at *
  have h1 : (a.tmod b).natAbs ≤ a.natAbs := by
    rw [Int.natAbs_tmod]; exact Nat.mod_le _ _
  by_cases h : 0 ≤ a
  · have := Int.tmod_nonneg b h
    omega
  · have := Int.tmod_nonneg b (show 0 ≤ -a by omega)
    rw [Int.neg_tmod] at this
    omega
theorem doP_in (op : Str) (a b : Int) (ha : inI64 a) (hb : inI64 b) : inI64 (doP op a b).1 := by
  unfold doP
  split
  · exact bI_in _ _ _ (.inl rfl)
  · exact bI_in _ _ _ (.inr (.inl rfl))
  · exact bI_in _ _ _ (.inr (.inr rfl))
  · exact truth_in _
  · exact truth_in _
  · exact truth_in _
  · exact truth_in _
  · exact truth_in _
  · exact truth_in _
  · exact shI_in _ _ _ ha
  · exact shI_in _ _ _ ha
  · exact wI_in _
  · exact wI_in _
  · exact wI_in _
  · split
    · unfold inI64; decide
    split
    · unfold inI64 lowI; decide
    · exact wI_in _
  · split
    · unfold inI64; decide
    split
    · unfold inI64; decide
    · exact tmod_in ha
  · unfold inI64; decide
def SetsI (B : Nat) (l : List (Str × Int)) : Prop := ∀ p, p ∈ l → p.1.length ≤ B ∧ inI64 p.2
structure InvS (B : Nat) (st : ASt) : Prop where
  n : st.over + st.left.length + st.sets.length ≤ B
  s : SetsI B st.sets
def LookI (look : Str → Int × Int) : Prop := ∀ s, inI64 (look s).1
def MdI : Md → Prop
  | .loop _ a => inI64 a
  | _ => True
theorem InvS.at {B : Nat} {st : ASt} {l : Str} (h : InvS B st) (hl : l.length ≤ st.left.length) : InvS B (st.at l) := ⟨by have := h.n; show st.over + l.length + st.sets.length ≤ B; omega, h.s⟩
theorem InvS.pass {B : Nat} {st : ASt} {b : Bool} (h : st.over + 1 + st.left.length + st.sets.length ≤ B) (hs : SetsI B st.sets) : InvS B (st.pass b) := ⟨by
  cases b
  · exact h
  · show st.over + st.left.length + st.sets.length ≤ B; omega, hs⟩
theorem InvS.skip {B : Nat} {st : ASt} (h : InvS B st) : InvS B st.skip := h.at (skip_len _)
/-- No more left, no more set, than before. -/
structure Lq (B : Nat) (st s' : ASt) : Prop where
  left : s'.left.length ≤ st.left.length
  sum : s'.left.length + s'.sets.length ≤ st.left.length + st.sets.length
  s : SetsI B s'.sets
theorem Lq.refl {B : Nat} {st : ASt} (h : SetsI B st.sets) : Lq B st st := ⟨Nat.le_refl _, Nat.le_refl _, h⟩
theorem Lq.trans {B : Nat} {a b c : ASt} (h : Lq B a b) (k : Lq B b c) : Lq B a c := ⟨Nat.le_trans k.left h.left, Nat.le_trans k.sum h.sum, k.s⟩
theorem Lq.same {B : Nat} {a b c : ASt} (h : Lq B a b) (hl : c.left = b.left) (hs : c.sets = b.sets) : Lq B a c := ⟨by rw [hl]; exact h.left, by rw [hl, hs]; exact h.sum, by rw [hs]; exact h.s⟩
theorem Lq.of {B : Nat} {a b c : ASt} (h : Lq B b c) (hl : b.left = a.left) (hs : b.sets = a.sets) : Lq B a c := ⟨by rw [← hl]; exact h.left, by rw [← hl, ← hs]; exact h.sum, h.s⟩
theorem Lq.at {B : Nat} {a b : ASt} {l : Str} (h : Lq B a b) (hl : l.length ≤ b.left.length) : Lq B a (b.at l) := ⟨Nat.le_trans hl h.left, by have := h.sum; show l.length + b.sets.length ≤ _; omega, h.s⟩
theorem Lq.skip {B : Nat} {a b : ASt} (h : Lq B a b) : Lq B a b.skip := h.at (skip_len _)
theorem Lq.inv {B : Nat} {a b : ASt} (h : Lq B a b) (hI : InvS B a) (ho : b.over ≤ a.over) : InvS B b := ⟨by have := h.sum; have := hI.n; omega, h.s⟩
theorem look_in {B : Nat} {st : ASt} (h : SetsI B st.sets) {name : Str} {n : Int} (hl : lookS st.sets name = some n) : inI64 n := by
  unfold lookS at hl
  cases hf : st.sets.reverse.find? fun p => decide (p.1 = name) with
  | none => rw [hf] at hl; cases hl
  | some p =>
    rw [hf] at hl
    injection hl with hl
    subst hl
    exact (h p (List.mem_reverse.1 (List.mem_of_find?_eq_some hf))).2
theorem ask_ok {B : Nat} {look : Str → Int × Int} (hL : LookI look) {st : ASt} (h : SetsI B st.sets) (name : Str) : (askP look st name).2.over = st.over ∧ (askP look st name).2.left = st.left ∧ (askP look st name).2.sets = st.sets ∧ inI64 (askP look st name).1 := by
  unfold askP
  split
  · split
    · rename_i n hn
      exact ⟨rfl, rfl, rfl, look_in h hn⟩
    · exact ⟨rfl, rfl, rfl, hL name⟩
  · exact ⟨rfl, rfl, rfl, by unfold inI64; omega⟩
theorem does_ok (op : Str) {a b : Int} (st : ASt) (ha : inI64 a) (hb : inI64 b) : (doesP op a b st).2.over = st.over ∧ (doesP op a b st).2.left = st.left ∧ (doesP op a b st).2.sets = st.sets ∧ inI64 (doesP op a b st).1 := by
  unfold doesP
  split
  · exact ⟨rfl, rfl, rfl, doP_in op a b ha hb⟩
  · exact ⟨rfl, rfl, rfl, by unfold inI64; omega⟩
theorem next_len (l : Str) : (nextP l).length ≤ l.length := by
  unfold nextP
  split
  · exact Nat.le_refl _
  · exact Nat.le_refl _
  · split <;> simp
theorem asgn_pos {op : Str} (h : asgn op = true) : 1 ≤ op.length ∧ op.length ≤ 2 := by
  unfold asgn at h
  split at h <;> first | (cases h; done) | exact ⟨by decide, by decide⟩
theorem rank_pos {op : Str} (h : ¬ rankOf op = 0) : 1 ≤ op.length ∧ op.length ≤ 2 ∧ rankOf op ≤ 10 := by
  unfold rankOf at h ⊢
  split at h <;> first | (exact absurd rfl h) | exact ⟨by decide, by decide, by decide⟩
/-- What an expression leaves. -/
structure EvOk (B : Nat) (st s' : ASt) (n : Int) : Prop where
  over : s'.over = st.over
  lq : Lq B st s'
  num : inI64 n
theorem EvOk.inv {B : Nat} {a b : ASt} {n : Int} (h : EvOk B a b n) (hI : InvS B a) : InvS B b := h.lq.inv hI (Nat.le_of_eq h.over)
theorem cons_skip {s t : Str} {c : UInt8} (h : skipB s = c :: t) : t.length + 1 ≤ s.length := by
  have := skip_len s; rw [h] at this; exact this
theorem name_next {l : Str} {n : Nat} (h : ¬ n = 0) (hk : 1 ≤ (nextP (skipB (l.drop n))).length) : ((skipB (l.drop n)).drop (nextP (skipB (l.drop n))).length).length + 2 ≤ l.length := by
  have h1 := next_len (skipB (l.drop n))
  have h2 := skip_len (l.drop n)
  rw [List.length_drop] at h2
  rw [List.length_drop]
  omega
theorem push_ok {B : Nat} {st s : ASt} {name : Str} {v : Int} (h : Lq B st s) (hn : name.length ≤ B) (hv : inI64 v) (h1 : s.left.length + s.sets.length + 1 ≤ st.left.length + st.sets.length) : Lq B st (pushP s name v) ∧ (pushP s name v).over = s.over := by
  unfold pushP
  split
  · refine ⟨⟨h.left, by simp only [List.length_append, List.length_singleton]; omega, ?_⟩, rfl⟩
    intro p hp
    rcases List.mem_append.1 hp with hp | hp
    · exact h.s p hp
    · simp at hp; subst hp; exact ⟨hn, hv⟩
  · exact ⟨h, rfl⟩
theorem ev_ok {B : Nat} {look : Str → Int × Int} (hL : LookI look) : ∀ (f : Nat) (md : Md) (st s' : ASt) (n : Int), ev look f md st = some (n, s') → InvS B st → MdI md → EvOk B st s' n := by
  intro f
  induction f with
  | zero => intro md st s' n h; cases h
  | succ f ih =>
    intro md st s' n h hI hM
    have sk := skip_len st.left
    have hB := hI.n
    have l0 : Lq B st st := Lq.refl hI.s
    cases md with
    | set =>
      unfold ev at h
      simp only at h
      split at h
      · rename_i hc
        split at h
        · cases h
        · rename_i v s2 h2
          have hd := name_next hc.1 (asgn_pos hc.2).1
          have hd' : (st.skip.left).length ≤ st.left.length := sk
          have i2 := ih _ _ _ _ h2 (hI.skip.at (by omega)) trivial
          have l1 : Lq B st s2 := (l0.skip.at (by omega)).trans i2.lq
          have hs2 := i2.lq.sum
          have hx : (st.skip.at ((skipB (st.skip.left.drop (frontF 0 st.skip.left))).drop (nextP (skipB (st.skip.left.drop (frontF 0 st.skip.left)))).length)).sets = st.sets := rfl
          have hx2 : (st.skip.at ((skipB (st.skip.left.drop (frontF 0 st.skip.left))).drop (nextP (skipB (st.skip.left.drop (frontF 0 st.skip.left)))).length)).left.length + 2 ≤ st.left.length := Nat.le_trans hd hd'
          rw [hx] at hs2
          have hnm : (st.skip.left.take (frontF 0 st.skip.left)).length ≤ B := by
            rw [List.length_take]; omega
          injection h with h
          injection h with e1 e2
          have a1 := ask_ok hL i2.lq.s (st.skip.left.take (frontF 0 st.skip.left))
          have key : ∀ r : Int × ASt, r = (if nextP (skipB (st.skip.left.drop (frontF 0 st.skip.left))) = [61] then (v, s2) else doesP ((nextP (skipB (st.skip.left.drop (frontF 0 st.skip.left)))).take 1) (askP look s2 (st.skip.left.take (frontF 0 st.skip.left))).1 v (askP look s2 (st.skip.left.take (frontF 0 st.skip.left))).2) → r.2.over = s2.over ∧ r.2.left = s2.left ∧ r.2.sets = s2.sets ∧ inI64 r.1 := by
            intro r hr
            split at hr
            · subst hr; exact ⟨rfl, rfl, rfl, i2.num⟩
            · subst hr
              have d1 := does_ok ((nextP (skipB (st.skip.left.drop (frontF 0 st.skip.left)))).take 1) (askP look s2 (st.skip.left.take (frontF 0 st.skip.left))).2 a1.2.2.2 i2.num
              exact ⟨d1.1.trans a1.1, d1.2.1.trans a1.2.1, d1.2.2.1.trans a1.2.2.1, d1.2.2.2⟩
          have kk := key _ rfl
          rw [e1] at e2 kk
          rw [← e2]
          have p1 := push_ok (l1.same kk.2.1 kk.2.2.1) hnm kk.2.2.2 (by rw [kk.2.1, kk.2.2.1]; omega)
          exact ⟨p1.2.trans (kk.1.trans i2.over), p1.1, kk.2.2.2⟩
      · have := ih _ _ _ _ h hI.skip trivial
        exact ⟨this.over, l0.skip.trans this.lq, this.num⟩
    | choice =>
      unfold ev at h
      split at h
      · cases h
      · rename_i c s1 h1
        have i1 := ih _ _ _ _ h1 hI trivial
        have I1 := i1.inv hI
        split at h
        · rename_i t ht
          have ht' := cons_skip ht
          split at h
          · cases h
          · rename_i a s2 h2
            have l1 : Lq B st (s1.at t) := i1.lq.at (by omega)
            have I2 : InvS B ((s1.at t).pass (decide (¬ c = 0))) := .pass (by
              have := I1.n
              show s1.over + 1 + t.length + s1.sets.length ≤ B
              omega) I1.s
            have i2 := ih _ _ _ _ h2 I2 trivial
            have l2 : Lq B st s2 := l1.trans (i2.lq.of rfl rfl)
            split at h
            · rename_i t2 ht2
              have ht2' := cons_skip ht2
              split at h
              · cases h
              · rename_i b s3 h3
                have l3 : Lq B st (s2.at t2) := l2.at (by omega)
                have hs1 := i1.lq.sum
                have hs2 := i2.lq.sum
                have I3 : InvS B (((s2.un s1.over).at t2).pass (decide (c = 0))) := .pass (by
                  have := I1.n
                  have h4 : s2.left.length + s2.sets.length ≤ t.length + s1.sets.length := hs2
                  show s1.over + 1 + t2.length + s2.sets.length ≤ B
                  omega) i2.lq.s
                have i3 := ih _ _ _ _ h3 I3 trivial
                injection h with h
                injection h with e1 e2
                subst e1; subst e2
                refine ⟨i1.over, (l3.trans (i3.lq.of rfl rfl)).same rfl rfl, ?_⟩
                split
                · exact i3.num
                · exact i2.num
            · cases h
        · injection h with h
          injection h with e1 e2
          subst e1; subst e2
          exact ⟨i1.over, i1.lq.skip, i1.num⟩
    | rank r =>
      unfold ev at h
      split at h
      · exact ih _ _ _ _ h hI trivial
      · split at h
        · cases h
        · rename_i a s1 h1
          have i1 := ih _ _ _ _ h1 hI trivial
          have i2 := ih _ _ _ _ h (i1.inv hI) i1.num
          exact ⟨i2.over.trans i1.over, i1.lq.trans i2.lq, i2.num⟩
    | loop r a =>
      unfold ev at h
      simp only at h
      split at h
      · rename_i hc
        have hk := (rank_pos (op := nextP st.skip.left) (by rw [hc.1]; exact hc.2)).1
        have hn := next_len st.skip.left
        have hd' : (st.skip.left).length ≤ st.left.length := sk
        have hdl : (st.skip.left.drop (nextP st.skip.left).length).length + 1 ≤ st.left.length := by rw [List.length_drop]; omega
        split at h
        · cases h
        · rename_i b s2 h2
          have I2 : InvS B ((st.skip.at (st.skip.left.drop (nextP st.skip.left).length)).pass (if r = 1 then decide (a = 0) else if r = 2 then decide (¬ a = 0) else true)) := .pass (by
            show st.over + 1 + (st.skip.left.drop (nextP st.skip.left).length).length + st.sets.length ≤ B
            omega) hI.s
          have i2 := ih _ _ _ _ h2 I2 trivial
          have l2 : Lq B st (s2.un st.skip.over) := (((l0.skip.at (l := st.skip.left.drop (nextP st.skip.left).length) (by rw [List.length_drop]; omega)).trans (i2.lq.of rfl rfl))).same rfl rfl
          have I3 : InvS B (s2.un st.skip.over) := l2.inv hI (Nat.le_refl _)
          split at h
          · have i3 := ih _ _ _ _ h I3 (truth_in _)
            exact ⟨i3.over, l2.trans i3.lq, i3.num⟩
          · split at h
            · have i3 := ih _ _ _ _ h I3 (truth_in _)
              exact ⟨i3.over, l2.trans i3.lq, i3.num⟩
            · have d1 := does_ok (nextP st.skip.left) (s2.un st.skip.over) hM i2.num
              have l3 : Lq B st (doesP (nextP st.skip.left) a b (s2.un st.skip.over)).2 := l2.same d1.2.1 d1.2.2.1
              have i3 := ih _ _ _ _ h (l3.inv hI (Nat.le_of_eq d1.1)) d1.2.2.2
              exact ⟨i3.over.trans d1.1, l3.trans i3.lq, i3.num⟩
      · injection h with h
        injection h with e1 e2
        subst e1; subst e2
        exact ⟨rfl, l0.skip, hM⟩
    | opnd =>
      unfold ev at h
      simp only at h
      split at h
      · cases h
      · rename_i c t hct
        have hd' : t.length + 1 ≤ st.left.length := by
          have := sk
          have e : st.skip.left = skipB st.left := rfl
          rw [← e, hct] at this
          exact this
        have lt : Lq B st (st.skip.at t) := l0.skip.at (by rw [hct]; simp)
        split at h
        · split at h
          · cases h
          · rename_i n1 s1 h1
            have i1 := ih _ _ _ _ h1 (lt.inv hI (Nat.le_refl _)) trivial
            injection h with h
            injection h with e1 e2
            subst e1; subst e2
            refine ⟨i1.over, lt.trans i1.lq, ?_⟩
            have hn := i1.num
            split
            · exact wI_in _
            split
            · exact truth_in _
            split
            · unfold inI64 at *; omega
            · exact hn
        · split at h
          · split at h
            · cases h
            · rename_i n1 s1 h1
              have i1 := ih _ _ _ _ h1 (lt.inv hI (Nat.le_refl _)) trivial
              split at h
              · rename_i t2 ht2
                have ht2' := cons_skip ht2
                injection h with h
                injection h with e1 e2
                subst e1; subst e2
                exact ⟨i1.over, (lt.trans i1.lq).at (by omega), i1.num⟩
              · cases h
          · split at h
            · injection h with h
              have a1 := ask_ok hL (st := st.skip.at ((c :: t).drop (frontF 0 (c :: t)))) hI.s ((c :: t).take (frontF 0 (c :: t)))
              rw [h] at a1
              exact ⟨a1.1, (l0.skip.at (l := (c :: t).drop (frontF 0 (c :: t))) (by rw [hct, List.length_drop]; omega)).same a1.2.1 a1.2.2.1, a1.2.2.2⟩
            · split at h
              · split at h
                · cases h
                · rename_i m hm
                  split at h
                  · cases h
                  · injection h with h
                    injection h with e1 e2
                    subst e1; subst e2
                    exact ⟨rfl, l0.skip.at (by rw [hct, List.length_drop]; omega), by unfold inI64; omega⟩
              · cases h
end Go.Proofs.YtkbpbagjbjkpmaaGreatDoor

/- A decimal text's value is its number. Conditions: none. -/
namespace Go.Proofs.YtkbpbagjbjkpmaaGreatDoor
open E Go.Lib
set_option linter.unusedVariables false
set_option linter.unusedSimpArgs false
set_option maxHeartbeats 1000000
set_option maxRecDepth 20000

theorem valB_snoc {b : Nat} {c : UInt8} : ∀ {s : Str} {a : Nat}, valB b (s ++ [c]) a = (valB b s a).bind fun x => if digV c < b then some (x * b + digV c) else none
  | [], a => by simp [valB]
  | d :: s, a => by
    simp only [List.cons_append, valB]
    split
    · exact valB_snoc
    · rfl
theorem digc_all : (List.range 10).all (fun i => decide ((UInt8.ofNat (48 + i)).toNat = 48 + i) && decide (digV (UInt8.ofNat (48 + i)) = i)) = true := by decide +kernel
theorem digc {i : Nat} (h : i < 10) : (UInt8.ofNat (48 + i)).toNat = 48 + i ∧ digV (UInt8.ofNat (48 + i)) = i := by
  have := List.all_eq_true.1 digc_all i (List.mem_range.2 h)
  simpa using this
theorem valB_dec : ∀ (n u : Nat), u ≤ n → valB 10 (decDigits u) 0 = some u := by
  intro n
  induction n with
  | zero =>
    intro u hu
    have : u = 0 := by omega
    subst this
    rw [decDigits, dif_pos (by decide)]
    decide
  | succ n ih =>
    intro u hu
    rw [decDigits]
    split
    · rename_i h
      have := (digc h).2
      simp only [valB, this, if_pos h]
      simp
    · have h10 : u % 10 < 10 := Nat.mod_lt _ (by decide)
      rw [valB_snoc, ih (u / 10) (by omega), (digc h10).2]
      simp only [Option.bind_some, if_pos h10]
      congr 1
      omega
/-- All digits; none at the head but for nought. -/
theorem dec_digs : ∀ (n u : Nat), u ≤ n → (∀ c, c ∈ decDigits u → 48 ≤ c.toNat ∧ c.toNat ≤ 57) ∧ (0 < u → ∀ c t, decDigits u = c :: t → ¬ c = 48) ∧ decDigits u ≠ [] := by
  intro n
  induction n with
  | zero =>
    intro u hu
    have : u = 0 := by omega
    subst this
    rw [decDigits, dif_pos (by decide)]
    exact ⟨by simp, fun h => absurd h (by decide), by simp⟩
  | succ n ih =>
    intro u hu
    rw [decDigits]
    split
    · rename_i h
      have hc := (digc h).1
      refine ⟨?_, ?_, by simp⟩
      · intro c hm
        simp only [List.mem_singleton] at hm
        subst hm
        omega
      · intro h0 c t e
        injection e with e _
        subst e
        intro e2
        rw [e2] at hc
        have : (48 : UInt8).toNat = 48 := rfl
        omega
    · have h10 : u % 10 < 10 := Nat.mod_lt _ (by decide)
      have hc := (digc h10).1
      have h1 := ih (u / 10) (by omega)
      refine ⟨?_, ?_, by simp⟩
      · intro c hm
        rcases List.mem_append.1 hm with hm | hm
        · exact h1.1 c hm
        · simp only [List.mem_singleton] at hm
          subst hm
          omega
      · intro h0 c t e
        cases hd : decDigits (u / 10) with
        | nil => exact absurd hd h1.2.2
        | cons d r =>
          rw [hd] at e
          injection e with e _
          subst e
          exact h1.2.1 (by omega) _ _ hd
theorem trim_id {s : Str} (h : ∀ c, c ∈ s → 45 ≤ c.toNat) : trimS s blk3 = s := by
  have hb : ∀ c : UInt8, 45 ≤ c.toNat → blk3.contains c = false := by
    intro c hc
    cases hh : blk3.contains c with
    | false => rfl
    | true =>
      simp at hh
      rcases hh with rfl | rfl | rfl <;> revert hc <;> decide
  have dw : ∀ l : Str, (∀ c, c ∈ l → 45 ≤ c.toNat) → l.dropWhile (fun c => blk3.contains c) = l := by
    intro l hl
    cases l with
    | nil => rfl
    | cons c t => rw [List.dropWhile_cons, hb c (hl c (by simp))]; rfl
  unfold trimS trimLeftS trimRightS
  rw [dw s.reverse (fun c hc => h c (List.mem_reverse.1 hc)), List.reverse_reverse, dw s h]
theorem numP_dec (u : Nat) : numP (decDigits u) = some u := by
  have h := dec_digs u u (Nat.le_refl _)
  have hv := valB_dec u u (Nat.le_refl _)
  match hd : decDigits u with
  | [] => exact absurd hd h.2.2
  | [c] => rw [hd] at hv; exact hv
  | c :: x :: t =>
    have hu : 0 < u := by
      by_cases h0 : u = 0
      · subst h0
        rw [decDigits, dif_pos (by decide)] at hd
        cases hd
      · omega
    have hc := h.2.1 hu _ _ hd
    have eL : numP (c :: x :: t) = (if c = 48 then (if (x = 120 ∨ x = 88) ∧ t ≠ [] then valB 16 t 0 else valB 8 (x :: t) 0) else valB 10 (c :: x :: t) 0) := rfl
    rw [eL, if_neg hc, ← hd]
    exact hv
theorem val_itoa {n : Int} (hn : inI64 n) : valueP (itoa n) = (n, 0) := by
  unfold inI64 at hn
  unfold itoa
  split
  · rename_i h
    have hd := dec_digs n.natAbs n.natAbs (Nat.le_refl _)
    have ht : trimS (45 :: decDigits n.natAbs) blk3 = 45 :: decDigits n.natAbs := trim_id fun c hc => by
      rcases List.mem_cons.1 hc with rfl | hc
      · decide
      · have := hd.1 c hc; omega
    unfold valueP
    rw [ht]
    simp only [or_true, if_true, numP_dec]
    rw [if_neg (by omega)]
    congr 1
    omega
  · rename_i h
    have hd := dec_digs n.toNat n.toNat (Nat.le_refl _)
    have hp := numP_dec n.toNat
    have ht : trimS (decDigits n.toNat) blk3 = decDigits n.toNat := trim_id fun c hc => by have := hd.1 c hc; omega
    unfold valueP
    rw [ht]
    cases hdd : decDigits n.toNat with
    | nil => exact absurd hdd hd.2.2
    | cons c t =>
      have hc := hd.1 c (by rw [hdd]; simp)
      have c1 : ¬ c = 43 := by rintro rfl; revert hc; decide
      have c2 : ¬ c = 45 := by rintro rfl; revert hc; decide
      rw [hdd] at hp
      simp only [c1, c2, or_self, if_false, hp]
      rw [if_neg (by omega)]
      congr 1
      omega
end Go.Proofs.YtkbpbagjbjkpmaaGreatDoor
