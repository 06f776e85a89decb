/- A text gone through: what a thing of a word, of quotes, of a brace, of a bracket is, how long, or what is wrong with it, and where. Conditions: none. -/
import Derived.Test.YtmgdkoidgoihfaaGreatDoorLb
namespace Go.Proofs.YtmgdkoidgoihfaaGreatDoor
open E Go.Lib
set_option linter.unusedVariables false
set_option linter.unusedSimpArgs false
set_option maxHeartbeats 1000000
set_option maxRecDepth 20000

/-- How long; or which error, and how far behind; or: it does not end. -/
inductive Rd where
  | ok (n : Nat)
  | bad (e : Int) (k : Nat)
  | cut
def Rd.add (m : Nat) : Rd → Rd
  | .ok n => .ok (m + n)
  | .bad e k => .bad e (m + k)
  | .cut => .cut
/-- Where the byte is. -/
def posB (c : UInt8) : Str → Option Nat
  | [] => none
  | a :: l => if a = c then some 0 else (posB c l).map (· + 1)
/-- A construct that begins at m, and whose insides begin at n. -/
def shut (m n deep : Nat) (r : Rd) : Rd := if 40 ≤ deep then .bad 3 m else
  match r with
  | .ok j => .ok (n + j)
  | .bad e j => .bad e (n + j)
  | .cut => .bad 11 m
/-- One thing (none), or things till a byte: quoted, where quotes count, where brackets count. -/
def go : Nat → Option UInt8 → Str → Bool → Bool → Bool → Nat → Rd
  | 0, _, _, _, _, _, _ => .cut
  | f + 1, some e, l, q, d, b, deep =>
    match l with
    | [] => .cut
    | c :: t => if c = e then .ok 1 else
      match go f none (c :: t) q d b deep with
      | .ok n => (go f (some e) ((c :: t).drop n) q d b deep).add n
      | r => r
  | f + 1, none, l, q, d, b, deep =>
    match l with
    | [] => .cut
    | c :: t =>
      if c = 92 then .ok (if t = [] then 1 else 2)
      else if c = 39 ∧ q = false then (match posB 39 t with | some n => .ok (n + 2) | none => .bad 11 0)
      else if c = 34 ∧ d = true then shut 0 1 deep (go f (some 34) t true false false (deep + 1))
      else if c = 40 ∧ b = true then shut 0 1 deep (go f (some 41) t false true true (deep + 1))
      else if c = 36 then
        (match t with
        | [] => .ok 1
        | x :: r => if x = 123 then shut 0 2 deep (go f (some 125) r q true false (deep + 1))
          else if x = 40 then shut 1 2 deep (go f (some 41) r false true true (deep + 1))
          else .ok 1)
      else if c = 96 then .bad 10 0
      else .ok 1
section
variable {c e : UInt8} {l t : Str} {q d b : Bool} {f n deep : Nat}
theorem pos_lt : ∀ {l : Str} {n : Nat}, posB c l = some n → n < l.length
  | [], n, h => by cases h
  | a :: l, n, h => by
    unfold posB at h
    split at h
    · cases h; simp
    · cases hp : posB c l with
      | none => rw [hp] at h; cases h
      | some m => rw [hp] at h; cases h; have := pos_lt hp; simp; omega
theorem shut_ok {m j : Nat} {r : Rd} (h : shut m j deep r = .ok n) : ∃ i, r = .ok i ∧ n = j + i := by
  unfold shut at h
  split at h
  · cases h
  · split at h
    · cases h; exact ⟨_, rfl, rfl⟩
    · cases h
    · cases h
/-- A thing is something, and within the text. -/
theorem go_ok : ∀ {f : Nat} {k : Option UInt8} {l : Str} {q d b : Bool} {deep n : Nat}, go f k l q d b deep = .ok n → 0 < n ∧ n ≤ l.length
  | 0, _, _, _, _, _, _, _, h => by cases h
  | f + 1, some e, l, q, d, b, deep, n, h => by
    unfold go at h
    split at h
    · cases h
    · rename_i c t
      split at h
      · cases h; simp
      · split at h
        · rename_i m hm
          have h1 := go_ok hm
          cases hg : go f (some e) ((c :: t).drop m) q d b deep with
          | ok j =>
            rw [hg] at h
            have h2 := go_ok hg
            rw [List.length_drop] at h2
            cases h
            omega
          | bad _ _ => rw [hg] at h; cases h
          | cut => rw [hg] at h; cases h
        · rename_i hr
          exact (hr n h).elim
  | f + 1, none, l, q, d, b, deep, n, h => by
    have tl : ∀ {k' : Option UInt8} {l' : Str} {q' d' b' : Bool} {dp m j : Nat}, shut m j dp (go f k' l' q' d' b' (dp + 1)) = .ok n → 0 < n ∧ n ≤ j + l'.length := fun h' => by
      obtain ⟨i, hi, rfl⟩ := shut_ok h'
      have := go_ok hi
      omega
    unfold go at h
    split at h
    · cases h
    rename_i c t
    split at h
    · cases h
      split
      · simp
      · rename_i ht
        have := List.length_pos_iff.2 ht
        simp; omega
    split at h
    · split at h
      · rename_i m hm
        cases h
        have := pos_lt hm
        simp; omega
      · cases h
    split at h
    · have := tl h; simp; omega
    split at h
    · have := tl h; simp; omega
    split at h
    · split at h
      · cases h; simp
      · split at h
        · have := tl h; simp; omega
        · split at h
          · have := tl h; simp; omega
          · cases h; simp
    split at h
    · cases h
    · cases h; simp
theorem add_bad {m : Nat} {r : Rd} {e : Int} {k : Nat} (h : r.add m = .bad e k) : ∃ j, r = .bad e j ∧ k = m + j := by
  cases r with
  | ok => cases h
  | bad => cases h; exact ⟨_, rfl, rfl⟩
  | cut => cases h
/-- What is wrong is one of three things, within the text. -/
theorem go_bad : ∀ {f : Nat} {k : Option UInt8} {l : Str} {q d b : Bool} {deep : Nat} {e : Int} {j : Nat}, go f k l q d b deep = .bad e j → j < l.length ∧ (e = 3 ∨ e = 10 ∨ e = 11)
  | 0, _, _, _, _, _, _, _, _, h => by cases h
  | f + 1, some y, l, q, d, b, deep, e, j, h => by
    unfold go at h
    split at h
    · cases h
    · rename_i c t
      split at h
      · cases h
      · split at h
        · rename_i m hm
          have h1 := go_ok hm
          obtain ⟨i, hi, rfl⟩ := add_bad h
          have h2 := go_bad hi
          rw [List.length_drop] at h2
          exact ⟨by omega, h2.2⟩
        · exact go_bad h
  | f + 1, none, l, q, d, b, deep, e, j, h => by
    have tl : ∀ {k' : Option UInt8} {l' : Str} {q' d' b' : Bool} {dp m i : Nat}, shut m i dp (go f k' l' q' d' b' (dp + 1)) = .bad e j → (j = m ∨ j < i + l'.length) ∧ (e = 3 ∨ e = 10 ∨ e = 11) := fun h' => by
      unfold shut at h'
      split at h'
      · cases h'; exact ⟨.inl rfl, .inl rfl⟩
      · split at h'
        · cases h'
        · rename_i e2 j2 hb
          cases h'
          have := go_bad hb
          exact ⟨.inr (by omega), this.2⟩
        · cases h'; exact ⟨.inl rfl, .inr (.inr rfl)⟩
    unfold go at h
    split at h
    · cases h
    rename_i c t
    split at h
    · cases h
    split at h
    · split at h
      · cases h
      · cases h; simp
    split at h
    · have := tl h; exact ⟨by simp; omega, this.2⟩
    split at h
    · have := tl h; exact ⟨by simp; omega, this.2⟩
    split at h
    · split at h
      · cases h
      · split at h
        · have := tl h; exact ⟨by simp; omega, this.2⟩
        · split at h
          · have := tl h; exact ⟨by simp; omega, this.2⟩
          · cases h
    split at h
    · cases h; simp
    · cases h
/-- Enough fuel: a thing never just stops. -/
theorem go_cut : ∀ {f : Nat} {l : Str} {q d b : Bool} {deep : Nat}, l ≠ [] → go (f + 1) none l q d b deep ≠ .cut
  | f, l, q, d, b, deep, hl, h => by
    have tl : ∀ {r : Rd} {dp m i : Nat}, shut m i dp r = .cut → False := fun h' => by
      unfold shut at h'
      split at h'
      · cases h'
      · split at h' <;> cases h'
    unfold go at h
    split at h
    · exact hl rfl
    split at h
    · cases h
    split at h
    · split at h <;> cases h
    split at h
    · exact tl h
    split at h
    · exact tl h
    split at h
    · split at h
      · cases h
      · split at h
        · exact tl h
        · split at h
          · exact tl h
          · cases h
    split at h <;> cases h
end
end Go.Proofs.YtmgdkoidgoihfaaGreatDoor
