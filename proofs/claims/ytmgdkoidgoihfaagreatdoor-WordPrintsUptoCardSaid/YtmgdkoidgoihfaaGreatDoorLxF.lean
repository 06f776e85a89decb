/- Tokens of a text, as one plain function: words, operators, ends of lines, texts in place. Conditions: none. -/
import Derived.Test.YtmgdkoidgoihfaaGreatDoorLxA
import Derived.Lib.SlTrimSet
namespace Go.Proofs.YtmgdkoidgoihfaaGreatDoor
open E Go.Lib
set_option linter.unusedVariables false
set_option linter.unusedSimpArgs false
set_option maxHeartbeats 1000000
set_option maxRecDepth 20000

abbrev digs : List UInt8 := [48, 49, 50, 51, 52, 53, 54, 55, 56, 57]
/-- A token: its kind, its text, where it begins, the text in place, and whether that is raw (none: either). -/
structure Tok where
  kind : Int
  text : Str
  at' : Nat
  body : Str
  raw : Option Bool
/-- A text in place that is to come: its token's place, its end line, whether tabs go. -/
structure Wt where
  op : Nat
  fin : Str
  tabs : Bool
structure LS where
  out : List Tok
  ws : List Wt
  i : Nat
def ops16 : List Str := [[60, 60, 45], [38, 38], [124, 124], [59, 59], [60, 60], [62, 62], [60, 38], [62, 38], [60, 62], [124], [38], [59], [60], [62], [40], [41]]
def isPre (p l : Str) : Bool := decide (l.take p.length = p)
def opAt (l : Str) : Option Str := ops16.find? fun o => isPre o l
def blankB (c : UInt8) : Bool := decide (c = 32) || decide (c = 9)
def metaB (c : UInt8) : Bool := [32, 9, 10, 124, 38, 59, 60, 62, 40, 41].contains c
/-- How long the line is. -/
def lineN (l : Str) : Nat := match posB 10 l with | some n => n | none => l.length
def bareP : Nat → Bool → Str → Str
  | 0, _, _ => []
  | f + 1, q, l =>
    match l with
    | [] => []
    | c :: t =>
      match t with
      | [] => if c = 34 then [] else [c]
      | x :: r =>
        if c = 92 then (if (q && !([36, 34, 92, 96, 10] : Str).contains x) = true then [92] else []) ++ ((if x = 10 then [] else [x]) ++ bareP f q r)
        else if c = 34 then bareP f (!q) t
        else if c = 39 ∧ q = false then
          (match posB 39 t with
          | none => c :: bareP f q t
          | some n => t.take n ++ bareP f q (t.drop (n + 1)))
        else c :: bareP f q t
/-- A text in place: what it is, and where it ends; none: it does not end. -/
def heredoc : Nat → Str → Nat → Str → Bool → Str → Option (Str × Nat)
  | 0, _, _, _, _, _ => none
  | f + 1, s, i, fin, tabs, acc =>
    match s.drop i with
    | [] => none
    | c :: t =>
      let l := c :: t
      let n := lineN l
      let i' := i + n + (if n < l.length then 1 else 0)
      let line := if tabs = true then trimLeftS (l.take n) [9] else l.take n
      if line = fin then some (acc, i') else heredoc f s i' fin tabs (acc ++ (line ++ [10]))
def setBody (out : List Tok) (n : Nat) (b : Str) : List Tok := match out[n]? with | some t => out.set n ⟨t.kind, t.text, t.at', b, t.raw⟩ | none => out
def setRaw (out : List Tok) (n : Nat) : List Tok := match out[n]? with | some t => out.set n ⟨t.kind, t.text, t.at', t.body, none⟩ | none => out
def atOf (out : List Tok) (n : Nat) : Nat := match out[n]? with | some t => t.at' | none => 0
/-- The texts in place that are to come. -/
def heres (s : Str) : List Tok → Nat → List Wt → List Tok × Nat × Option (Int × Nat)
  | out, i, [] => (out, i, none)
  | out, i, w :: ws =>
    match heredoc (s.length + 1) s i w.fin w.tabs [] with
    | some (b, i') => heres s (setBody out w.op b) i' ws
    | none => (out, i, some (12, atOf out w.op))
abbrev FU : Nat := 2100000
/-- How far a word goes, or what is wrong. -/
def wordP : Nat → Str → Nat → Nat × Option (Int × Nat)
  | 0, _, i => (i, none)
  | f + 1, s, i =>
    match s.drop i with
    | [] => (i, none)
    | c :: t => if metaB c = true then (i, none) else
      match go FU none (c :: t) false true false 0 with
      | .ok n => wordP f s (i + n)
      | .bad e k => (i, some (e, i + k))
      | .cut => (i, none)
/-- A number ahead of < or >: from i up to j. -/
def ioB (s : Str) (i j : Nat) : Bool := (match s.drop j with | [] => false | c :: _ => decide (c = 60) || decide (c = 62)) && decide (trimS ((s.drop i).take (j - i)) digs = [])
/-- A word that was read, from i up to j. -/
def ofWord (s : Str) (st : LS) (j : Nat) : LS :=
  let text := (s.drop st.i).take (j - st.i)
  let n := st.out.length - 1
  if ioB s st.i j = true then ⟨st.out ++ [⟨4, text, st.i, [], some false⟩], st.ws, j⟩
  else
    match st.out[n]? with
    | some t => if t.kind = 2 ∧ isPre [60, 60] t.text = true then ⟨setRaw (st.out ++ [⟨1, text, st.i, [], some false⟩]) n, st.ws ++ [⟨n, bareP (text.length + 1) false text, decide (t.text = [60, 60, 45])⟩], j⟩
      else ⟨st.out ++ [⟨1, text, st.i, [], some false⟩], st.ws, j⟩
    | none => ⟨st.out ++ [⟨1, text, st.i, [], some false⟩], st.ws, j⟩
def stepL (s : Str) (st : LS) : LS × Option (Int × Nat) :=
  match s.drop st.i with
  | [] => (st, none)
  | c :: t =>
    let l := c :: t
    match opAt l with
    | some o => (⟨st.out ++ [⟨2, o, st.i, [], some false⟩], st.ws, st.i + o.length⟩, none)
    | none =>
      if isPre [92, 10] l = true then (⟨st.out, st.ws, st.i + 2⟩, none)
      else if blankB c = true then (⟨st.out, st.ws, st.i + 1⟩, none)
      else if c = 35 then (⟨st.out, st.ws, st.i + lineN l⟩, none)
      else if c = 10 then
        (match heres s st.out (st.i + 1) st.ws with
        | (out, i, none) => (⟨out ++ [⟨3, [10], st.i, [], some false⟩], [], i⟩, none)
        | (out, i, some e) => (⟨out, st.ws, i⟩, some e))
      else
        (match wordP (s.length + 1) s st.i with
        | (j, none) => (ofWord s st j, none)
        | (j, some e) => (st, some e))
def runL : Nat → Str → LS → LS × Option (Int × Nat)
  | 0, _, st => (st, none)
  | f + 1, s, st => if st.i < s.length then
      (match stepL s st with
      | (st', none) => runL f s st'
      | r => r)
    else (st, none)
/-- The tokens; where something is wrong; what. -/
def lexP (s : Str) : List Tok × Nat × Int :=
  if 4096 < s.length then ([], 0, 3) else
  match runL (s.length + 1) s ⟨[], [], 0⟩ with
  | (st, some (e, k)) => (st.out, k, e)
  | (st, none) => match st.ws with
    | [] => (st.out, 0, 0)
    | w :: _ => (st.out, atOf st.out w.op, 12)
theorem ex1 : lexP [97, 32, 50, 62, 98, 32, 35, 32, 99] = ([⟨1, [97], 0, [], some false⟩, ⟨4, [50], 2, [], some false⟩, ⟨2, [62], 3, [], some false⟩, ⟨1, [98], 4, [], some false⟩], 0, 0) := by kernel_rfl
theorem ex3 : lexP [97, 32, 60, 60, 69, 10, 98, 10, 69, 10] = ([⟨1, [97], 0, [], some false⟩, ⟨2, [60, 60], 2, [98, 10], none⟩, ⟨1, [69], 4, [], some false⟩, ⟨3, [10], 5, [], some false⟩], 0, 0) := by kernel_rfl
theorem ex4 : lexP [97, 32, 39, 98] = ([⟨1, [97], 0, [], some false⟩], 2, 11) := by kernel_rfl
theorem ex2 : lexP [120, 34, 97, 32, 98, 34, 36, 40, 99, 32, 100, 41, 59, 59] = ([⟨1, [120, 34, 97, 32, 98, 34, 36, 40, 99, 32, 100, 41], 0, [], some false⟩, ⟨2, [59, 59], 12, [], some false⟩], 0, 0) := by kernel_rfl
end Go.Proofs.YtmgdkoidgoihfaaGreatDoor
