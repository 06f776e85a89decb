/- Words, as plain data: which parts a text has. Conditions: none. -/
import Derived.Test.YtmgdkoidgoihfaaGreatDoorLxF
import Derived.Test.YtmgdkoidgoihfaaGreatDoorNm
namespace Go.Proofs.YtmgdkoidgoihfaaGreatDoor
open E Go.Lib
set_option linter.unusedVariables false
set_option linter.unusedSimpArgs false
set_option maxHeartbeats 1000000
set_option maxRecDepth 20000

/-- A part of a word. -/
inductive Pt where
  | mk (kind : Int) (text : Str) (quote : Bool) (op : Int) (colon : Bool) (word : List Pt)
namespace Pt
def kind : Pt → Int | mk a _ _ _ _ _ => a
def text : Pt → Str | mk _ a _ _ _ _ => a
def quote : Pt → Bool | mk _ _ a _ _ _ => a
def op : Pt → Int | mk _ _ _ a _ _ => a
def colon : Pt → Bool | mk _ _ _ _ a _ => a
def word : Pt → List Pt | mk _ _ _ _ _ a => a
def more (p : Pt) (s : Str) : Pt := mk p.kind (p.text ++ s) p.quote p.op p.colon p.word
end Pt
abbrev litP (s : Str) (q : Bool) : Pt := .mk 1 s q 0 false []
/-- A part more. -/
def addP (out : List Pt) (p : Pt) : List Pt := match out[out.length - 1]? with
  | some l => if p.kind = 1 ∧ l.kind = 1 ∧ l.quote = p.quote then out.set (out.length - 1) (l.more p.text) else out ++ [p]
  | none => out ++ [p]
inductive WR where
  | ok (w : List Pt)
  | bad (e : Int)
def withinB (way : Nat) : Bool := decide (way = 2) || decide (way = 3) || decide (way = 5)
def pairP (t : Str) (way : Nat) (out : List Pt) : List Pt := match t with
  | _ :: c :: r =>
    if c = 10 then out
    else if (withinB way && (decide (c = 34 ∧ way = 5) || (!([36, 34, 92, 96] : Str).contains c && !decide (c = 125 ∧ way = 3)))) = true then addP out (litP t true)
    else addP out (litP (c :: r) true)
  | _ => addP out (litP t true)
def digN : Str → Nat
  | [] => 0
  | c :: t => if digitB c = true then 1 + digN t else 0
def signs4 : Str := [64, 42, 35, 63]
/-- How long the parameter is with which a text begins. -/
def paramN (s : Str) : Nat :=
  if 0 < frontF 0 s then frontF 0 s
  else if 3 < digN s ∨ (1 < digN s ∧ s.head? = some 48) then 0
  else if 0 < digN s then digN s
  else match s with
    | c :: _ => if signs4.contains c = true then 1 else 0
    | [] => 0
def namedN (s : Str) : Nat :=
  if 0 < frontF 0 s then frontF 0 s
  else match s with
    | c :: _ => if (digitB c || signs4.contains c) = true then 1 else 0
    | [] => 0
def ops8 : List (Str × Int) := [([35, 35], 7), ([37, 37], 9), ([35], 6), ([37], 8), ([45], 2), ([61], 3), ([63], 4), ([43], 5)]
def opOf (s : Str) : Option (Str × Int) := ops8.find? fun o => isPre o.1 s
def nextW (way : Nat) (op : Int) : Nat := if 2 ≤ way then (if 6 ≤ op then 4 else 3) else 1
def colonB (s : Str) : Bool := match s with
  | c :: x :: _ => decide (c = 58) && ([45, 61, 63, 43] : Str).contains x
  | _ => false
def varP (s : Str) (way : Nat) (op : Int) (colon : Bool) (w : List Pt) : Pt := .mk 2 s (withinB way) op colon w
def braceP (rd : Str → Nat → WR) (s : Str) (way : Nat) (out : List Pt) : WR :=
  if isPre [35] s = true ∧ 1 < s.length ∧ paramN (s.drop 1) = s.length - 1 then .ok (addP out (varP (s.drop 1) way 1 false []))
  else if paramN s = 0 then .bad 10
  else if s.drop (paramN s) = [] then .ok (addP out (varP (s.take (paramN s)) way 0 false []))
  else
    let r1 := if colonB (s.drop (paramN s)) = true then (s.drop (paramN s)).drop 1 else s.drop (paramN s)
    match opOf r1 with
    | none => .bad 10
    | some (o, op) =>
      match rd (r1.drop o.length) (nextW way op) with
      | .bad e => .bad e
      | .ok w => .ok (addP out (varP (s.take (paramN s)) way op (colonB (s.drop (paramN s))) w))
/-- A text without its first byte, and without its last. -/
def mid (t : Str) : Str := (t.drop 1).take (t.length - 2)
def okN : Rd → Option Nat
  | .ok n => some n
  | _ => none
def runP (t : Str) (quote : Bool) (out : List Pt) : List Pt :=
  if isPre [40] (mid t) = true ∧ okN (go FU none (36 :: mid t) false true false 0) = some ((mid t).length + 1) then addP out (.mk 4 (mid (mid t)) quote 0 false [])
  else addP out (.mk 3 (mid t) quote 0 false [])
def thingP (rd : Str → Nat → WR) (t : Str) (way : Nat) (out : List Pt) : WR := match t with
  | [] => .ok out
  | c :: r =>
    if c = 92 then .ok (pairP (c :: r) way out)
    else if r = [] then
      (if c = 36 then .ok (addP out (litP [c] true))
      else if way = 0 ∧ metaB c = true then .bad 10
      else .ok (addP out (litP [c] (withinB way))))
    else if c = 39 then .ok (addP out (litP (mid (c :: r)) true))
    else if c = 34 then
      (match rd (mid (c :: r)) 2 with
      | .bad e => .bad e
      | .ok w => .ok (w.foldl addP (if w = [] then addP out (litP [] true) else out)))
    else if r.head? = some 123 then braceP rd ((r.drop 1).take (r.length - 2)) way out
    else .ok (runP r (withinB way) out)
/-- Is what begins with a byte gone through as quoted? -/
def qOf (c : UInt8) (way : Nat) : Bool := decide (2 ≤ way) && !decide (c = 34 ∧ way ≠ 5)
def rdP : Nat → Str → Nat → List Pt → WR
  | 0, _, _, _ => .bad 0
  | f + 1, s, way, out =>
    match s with
    | [] => .ok out
    | c :: t =>
      if c = 36 ∧ 0 < namedN t then rdP f (t.drop (namedN t)) way (addP out (varP (t.take (namedN t)) way 0 false []))
      else match go FU none (c :: t) (qOf c way) (!qOf c way) false 0 with
        | .ok n =>
          match thingP (fun s w => rdP f s w []) ((c :: t).take n) way out with
          | .ok out' => rdP f ((c :: t).drop n) way out'
          | .bad e => .bad e
        | .bad e _ => .bad e
        | .cut => .bad 0
/-- A word's parts, a text in place's. -/
def wordW (s : Str) (way : Nat) : WR := if 4096 < s.length then .bad 3 else rdP (s.length + 1) s way []
theorem wx1 : rdP 12 [97, 39, 98, 32, 99, 39, 34, 100, 34] 0 [] = .ok [litP [97] false, litP [98, 32, 99, 100] true] := by kernel_rfl
theorem wx2 : rdP 20 [36, 123, 120, 58, 45, 97, 32, 98, 125] 0 [] = .ok [.mk 2 [120] false 2 true [litP [97, 32, 98] false]] := by kernel_rfl
theorem wx4 : rdP 20 [36, 123, 125] 0 [] = .bad 10 := by kernel_rfl

/-! ### How long things are -/
theorem front_le : ∀ (s : Str) (i : Nat), frontF i s ≤ s.length
  | [], _ => Nat.le_refl _
  | c :: t, i => by
    unfold frontF
    split
    · have := front_le t (i + 1); simp; omega
    · simp
theorem dig_le : ∀ s : Str, digN s ≤ s.length
  | [] => Nat.le_refl _
  | c :: t => by
    unfold digN
    split
    · have := dig_le t; simp; omega
    · simp
theorem param_le (s : Str) : paramN s ≤ s.length := by
  have h1 := front_le s 0
  have h2 := dig_le s
  unfold paramN
  split
  · exact h1
  split
  · exact Nat.zero_le _
  split
  · exact h2
  split
  · split <;> simp
  · exact Nat.zero_le _
theorem named_le (s : Str) : namedN s ≤ s.length := by
  have h1 := front_le s 0
  unfold namedN
  split
  · exact h1
  split
  · split <;> simp
  · exact Nat.zero_le _
theorem mid_len (t : Str) : (mid t).length = t.length - 2 := by
  unfold mid; rw [List.length_take, List.length_drop]; omega
/-- How many bytes. -/
def txt : List Pt → Nat
  | [] => 0
  | p :: l => p.text.length + txt l
theorem txt_append : ∀ (a b : List Pt), txt (a ++ b) = txt a + txt b
  | [], b => by simp [txt]
  | p :: a, b => by
    have := txt_append a b
    simp only [List.cons_append, txt, this]; omega
theorem txt_set : ∀ (a : List Pt) (n : Nat) (l p : Pt) (s : Str), a[n]? = some l → p = l.more s → txt (a.set n p) = txt a + s.length
  | [], n, l, p, s, h, _ => by simp at h
  | q :: a, 0, l, p, s, h, hp => by
    simp at h
    subst h hp
    simp only [List.set_cons_zero, txt, Pt.more, Pt.text, List.length_append]
    omega
  | q :: a, n + 1, l, p, s, h, hp => by
    have := txt_set a n l p s (by simpa using h) hp
    simp only [List.set_cons_succ, txt, this]
    omega
theorem add_txt (out : List Pt) (p : Pt) : txt (addP out p) = txt out + p.text.length := by
  unfold addP
  split
  · rename_i l hl
    split
    · exact txt_set _ _ _ _ _ hl rfl
    · rw [txt_append]; simp [txt]
  · rw [txt_append]; simp [txt]
theorem add_len (out : List Pt) (p : Pt) : (addP out p).length ≤ out.length + 1 := by
  unfold addP
  split
  · split <;> simp
  · simp
/-- So many parts and bytes are there at most. -/
def FitW (out : List Pt) (n : Nat) : Prop := out.length ≤ n ∧ txt out ≤ n
theorem FitW.add {out : List Pt} {p : Pt} {n m : Nat} (h : FitW out n) (hp : p.text.length ≤ m) (h1 : 1 ≤ m) : FitW (addP out p) (n + m) := by
  have h2 := add_len out p
  have h3 := add_txt out p
  exact ⟨by have := h.1; omega, by have := h.2; omega⟩
theorem FitW.le {out : List Pt} {n m : Nat} (h : FitW out n) (hm : n ≤ m) : FitW out m := ⟨by have := h.1; omega, by have := h.2; omega⟩
theorem FitW.fold : ∀ {w out : List Pt} {n m : Nat}, FitW out n → w.length ≤ m → txt w ≤ m → FitW (w.foldl addP out) (n + m)
  | w, out, n, m, h, h1, h2 => by
    have key : ∀ (w out : List Pt), (w.foldl addP out).length ≤ out.length + w.length ∧ txt (w.foldl addP out) = txt out + txt w := by
      intro w
      induction w with
      | nil => intro out; exact ⟨by simp, by simp [txt]⟩
      | cons p w ih =>
        intro out
        have := ih (addP out p)
        have a := add_len out p
        have b := add_txt out p
        simp only [List.foldl_cons, List.length_cons, txt]
        exact ⟨by omega, by omega⟩
    have := key w out
    exact ⟨by have := h.1; omega, by have := h.2; omega⟩
theorem pair_fit {t : Str} {way : Nat} {out : List Pt} {n : Nat} (h : FitW out n) (ht : t ≠ []) : FitW (pairP t way out) (n + t.length) := by
  have h1 : 1 ≤ t.length := List.length_pos_iff.2 ht
  unfold pairP
  split
  · rename_i c r
    split
    · exact h.le (by omega)
    split
    · exact h.add (Nat.le_refl _) h1
    · exact h.add (by simp only [Pt.text, List.length_cons]; omega) h1
  · exact h.add (Nat.le_refl _) h1
theorem run_fit {t : Str} {q : Bool} {out : List Pt} {n : Nat} (h : FitW out n) (ht : t ≠ []) : FitW (runP t q out) (n + t.length) := by
  have h1 : 1 ≤ t.length := List.length_pos_iff.2 ht
  have h2 := mid_len t
  have h3 := mid_len (mid t)
  unfold runP
  split
  · exact h.add (by simp only [Pt.text]; omega) h1
  · exact h.add (by simp only [Pt.text]; omega) h1
def RdFit (rd : Str → Nat → WR) (m : Nat) : Prop := ∀ s w l, s.length < m → rd s w = .ok l → FitW l s.length
theorem brace_fit {rd : Str → Nat → WR} {s : Str} {way n : Nat} {out l : List Pt} (h : FitW out n) (hb : braceP rd s way out = .ok l) : FitW l (n + s.length + 1) := by
  have hp := param_le s
  have ht : (s.take (paramN s)).length ≤ s.length + 1 := by rw [List.length_take]; omega
  unfold braceP at hb
  split at hb
  · injection hb with hb; subst hb
    exact h.add (m := s.length + 1) (by simp only [varP, Pt.text, List.length_drop]; omega) (by omega)
  split at hb
  · cases hb
  split at hb
  · injection hb with hb; subst hb
    exact h.add (m := s.length + 1) ht (by omega)
  · simp only at hb
    split at hb
    · cases hb
    · split at hb
      · cases hb
      · injection hb with hb; subst hb
        exact h.add (m := s.length + 1) ht (by omega)
theorem thing_fit {rd : Str → Nat → WR} {t : Str} {way n : Nat} {out l : List Pt} (hr : RdFit rd t.length) (h : FitW out n) (ht : thingP rd t way out = .ok l) (h2 : t.head? = some 34 → 2 ≤ t.length ∨ t.length = 1) : FitW l (n + t.length) := by
  unfold thingP at ht
  split at ht
  · injection ht with ht; subst ht; exact h.le (by omega)
  rename_i c r
  have hlen : (c :: r).length = r.length + 1 := rfl
  split at ht
  · injection ht with ht; subst ht
    exact pair_fit h (by simp)
  split at ht
  · rename_i hr0
    subst hr0
    split at ht
    · injection ht with ht; subst ht
      exact h.add (by simp [Pt.text]) (by simp)
    split at ht
    · cases ht
    · injection ht with ht; subst ht
      exact h.add (by simp [Pt.text]) (by simp)
  rename_i hr0
  have h1 : 1 ≤ r.length := List.length_pos_iff.2 hr0
  have hm := mid_len (c :: r)
  split at ht
  · injection ht with ht; subst ht
    exact h.add (by simp only [Pt.text]; omega) (by omega)
  split at ht
  · split at ht
    · cases ht
    · rename_i w hw
      injection ht with ht; subst ht
      have hf := hr _ _ _ (by omega) hw
      split
      · rename_i hw0
        subst hw0
        exact h.add (by simp [Pt.text]) (by omega)
      · have h3 : (c :: r).length - 2 ≤ r.length + 1 := by rw [hlen]; omega
        have := FitW.fold h (w := w) (m := r.length + 1) (by have := hf.1; omega) (by have := hf.2; omega)
        exact this
  split at ht
  · refine (brace_fit h ht).le ?_
    rw [List.length_take, List.length_drop]; omega
  · injection ht with ht; subst ht
    exact (run_fit h hr0).le (by omega)
theorem rd_fit : ∀ (f : Nat) (s : Str) (way n : Nat) (out l : List Pt), FitW out n → rdP f s way out = .ok l → FitW l (n + s.length)
  | 0, s, way, n, out, l, _, h => by cases h
  | f + 1, s, way, n, out, l, hf, h => by
    unfold rdP at h
    split at h
    · injection h with h; subst h; exact hf.le (by omega)
    rename_i c t
    split at h
    · have h1 := named_le t
      have := rd_fit f _ _ (n + (1 + namedN t)) _ _ (hf.add (m := 1 + namedN t) (by simp only [varP, Pt.text, List.length_take]; omega) (by omega)) h
      refine this.le ?_
      rw [List.length_drop, List.length_cons]; omega
    · split at h
      · rename_i m hm
        have h1 := go_ok hm
        split at h
        · rename_i out' ht
          have hl : ((c :: t).take m).length = m := by rw [List.length_take]; omega
          have h2 := thing_fit (n := n) (fun s w l hs hl => by
            have := rd_fit f s w 0 [] l ⟨by simp, by simp [txt]⟩ hl
            rwa [Nat.zero_add] at this) hf ht (fun _ => by omega)
          rw [hl] at h2
          have := rd_fit f _ _ _ _ _ h2 h
          refine this.le ?_
          rw [List.length_drop]; omega
        · cases h
      · cases h
      · cases h
end Go.Proofs.YtmgdkoidgoihfaaGreatDoor

/- Words, as plain data: what is read has a shape. Conditions: none. -/
namespace Go.Proofs.YtmgdkoidgoihfaaGreatDoor
open E Go.Lib
set_option linter.unusedVariables false
set_option linter.unusedSimpArgs false
set_option maxHeartbeats 1000000
set_option maxRecDepth 20000

/-- No two Lits that might be one stand behind one another. -/
def Adj (w : List Pt) : Prop := ∀ i p q, w[i]? = some p → w[i + 1]? = some q → ¬ (q.kind = 1 ∧ p.kind = 1 ∧ p.quote = q.quote)
inductive OkP : Pt → Prop
  | mk (k : Int) (t : Str) (q : Bool) (o : Int) (c : Bool) (w : List Pt) (h1 : 1 ≤ k) (h2 : k ≤ 4) (h3 : 0 ≤ o) (h4 : o ≤ 9) (h5 : k = 2 ∨ (o = 0 ∧ c = false)) (h6 : k = 1 → q = true ∨ t ≠ []) (h7 : o < 2 → w = []) (h8 : c = true → 2 ≤ o ∧ o ≤ 5)
      (h9 : ∀ (i : Nat) (hi : i < w.length), OkP w[i]) (ha : Adj w) : OkP (.mk k t q o c w)
def ShW (w : List Pt) : Prop := (∀ (i : Nat) (hi : i < w.length), OkP w[i]) ∧ Adj w
theorem ShW.nil : ShW [] := ⟨fun i hi => by simp at hi, fun i p q h => by simp at h⟩
theorem OkP.lit {s : Str} {q : Bool} (h : q = true ∨ s ≠ []) : OkP (litP s q) :=
  .mk 1 s q 0 false [] (by decide) (by decide) (by decide) (by decide) (.inr ⟨rfl, rfl⟩) (fun _ => h) (fun _ => rfl) (fun h => by cases h) (fun i hi => by simp at hi) ShW.nil.2
theorem OkP.leaf {s : Str} {q : Bool} {k : Int} (h1 : 2 ≤ k) (h2 : k ≤ 4) : OkP (.mk k s q 0 false []) :=
  .mk k s q 0 false [] (by omega) h2 (by decide) (by decide) (.inr ⟨rfl, rfl⟩) (fun h => by omega) (fun _ => rfl) (fun h => by cases h) (fun i hi => by simp at hi) ShW.nil.2
theorem OkP.var {s : Str} {way : Nat} {op : Int} {c : Bool} {w : List Pt} (h1 : 0 ≤ op) (h2 : op ≤ 9) (h3 : op < 2 → w = []) (h4 : c = true → 2 ≤ op ∧ op ≤ 5) (hw : ShW w) : OkP (varP s way op c w) :=
  .mk 2 s _ op c w (by decide) (by decide) h1 h2 (.inl rfl) (fun h => absurd h (by decide)) h3 h4 hw.1 hw.2
theorem OkP.more {p : Pt} {s : Str} (h : OkP p) : OkP (p.more s) := by
  cases h with
  | mk k t q o c w h1 h2 h3 h4 h5 h6 h7 h8 h9 ha =>
    refine .mk k (t ++ s) q o c w h1 h2 h3 h4 h5 (fun hk => ?_) h7 h8 h9 ha
    rcases h6 hk with h | h
    · exact .inl h
    · exact .inr (by simp [h])
theorem ShW.add {out : List Pt} {p : Pt} (h : ShW out) (hp : OkP p) : ShW (addP out p) := by
  have app : ∀ (hn : ∀ l, out[out.length - 1]? = some l → ¬ (p.kind = 1 ∧ l.kind = 1 ∧ l.quote = p.quote)), ShW (out ++ [p]) := by
    intro hn
    refine ⟨fun i hi => ?_, fun i a b ha hb => ?_⟩
    · by_cases hlt : i < out.length
      · rw [List.getElem_append_left hlt]; exact h.1 i hlt
      · rw [List.getElem_append_right (by omega)]
        simpa using hp
    · by_cases hlt : i + 1 < out.length
      · rw [List.getElem?_append_left (by omega)] at ha
        rw [List.getElem?_append_left hlt] at hb
        exact h.2 i a b ha hb
      · have hi := (List.getElem?_eq_some_iff.1 hb).1
        simp only [List.length_append, List.length_singleton] at hi
        have e : i + 1 = out.length := by omega
        rw [List.getElem?_append_left (by omega)] at ha
        rw [List.getElem?_append_right (by omega), e, Nat.sub_self] at hb
        simp only [List.getElem?_cons_zero, Option.some.injEq] at hb
        subst hb
        exact hn a (by rw [← e, Nat.add_sub_cancel]; exact ha)
  unfold addP
  split
  · rename_i l hl
    split
    · rename_i hc
      have hlt := (List.getElem?_eq_some_iff.1 hl).1
      have ho : OkP l := by
        have := h.1 _ hlt
        rw [(List.getElem?_eq_some_iff.1 hl).2] at this
        exact this
      have at' : ∀ (j : Nat) (q : Pt), (out.set (out.length - 1) (l.more p.text))[j]? = some q → ∃ q0 : Pt, out[j]? = some q0 ∧ q.kind = q0.kind ∧ q.quote = q0.quote := by
        intro j q hq
        by_cases hj : out.length - 1 = j
        · subst hj
          rw [List.getElem?_set_self hlt] at hq
          injection hq with hq; subst hq
          exact ⟨l, hl, rfl, rfl⟩
        · rw [List.getElem?_set_ne hj] at hq
          exact ⟨q, hq, rfl, rfl⟩
      refine ⟨fun i hi => ?_, fun i a b ha hb => ?_⟩
      · rw [List.getElem_set]
        split
        · exact ho.more
        · exact h.1 i (by simpa using hi)
      · obtain ⟨a0, h1, e1, e2⟩ := at' _ _ ha
        obtain ⟨b0, h2, e3, e4⟩ := at' _ _ hb
        rw [e1, e2, e3, e4]
        exact h.2 i a0 b0 h1 h2
    · rename_i hc
      exact app (fun l' hl' => by rw [hl] at hl'; injection hl' with hl'; subst hl'; exact hc)
  · rename_i hn
    exact app (fun l' hl' => by rw [hn] at hl'; cases hl')
theorem ShW.fold : ∀ {w out : List Pt}, ShW out → (∀ (i : Nat) (hi : i < w.length), OkP w[i]) → ShW (w.foldl addP out)
  | [], out, h, _ => h
  | p :: w, out, h, hw => ShW.fold (w := w) (out := addP out p) (h.add (hw 0 (by simp))) (fun i hi => hw (i + 1) (by simpa using hi))
theorem pair_sh {t : Str} {way : Nat} {out : List Pt} (h : ShW out) : ShW (pairP t way out) := by
  unfold pairP
  split
  · split
    · exact h
    split
    · exact h.add (.lit (.inl rfl))
    · exact h.add (.lit (.inl rfl))
  · exact h.add (.lit (.inl rfl))
theorem run_sh {t : Str} {q : Bool} {out : List Pt} (h : ShW out) : ShW (runP t q out) := by
  unfold runP
  split
  · exact h.add (.leaf (by decide) (by decide))
  · exact h.add (.leaf (by decide) (by decide))
theorem op_rng {s o : Str} {op : Int} (h : opOf s = some (o, op)) : 2 ≤ op ∧ op ≤ 9 ∧ 1 ≤ o.length ∧ o.length ≤ s.length := by
  have h1 := List.find?_some h
  have h2 := List.mem_of_find?_eq_some h
  have h3 : o.length ≤ s.length := by
    simp only [isPre, decide_eq_true_eq] at h1
    have := congrArg List.length h1
    rw [List.length_take] at this
    omega
  simp only [ops8, List.mem_cons, List.not_mem_nil, or_false, Prod.mk.injEq] at h2
  rcases h2 with ⟨rfl, rfl⟩ | ⟨rfl, rfl⟩ | ⟨rfl, rfl⟩ | ⟨rfl, rfl⟩ | ⟨rfl, rfl⟩ | ⟨rfl, rfl⟩ | ⟨rfl, rfl⟩ | ⟨rfl, rfl⟩ <;> exact ⟨by decide, by decide, by decide, h3⟩
theorem colon_op {s o : Str} {op : Int} (hc : colonB s = true) (h : opOf (s.drop 1) = some (o, op)) : op ≤ 5 := by
  unfold colonB at hc
  split at hc
  · rename_i c x r
    simp only [Bool.and_eq_true, decide_eq_true_eq] at hc
    have hx := hc.2
    simp only [List.contains_cons, Bool.or_eq_true, beq_iff_eq, List.contains_nil, Bool.false_eq_true, or_false] at hx
    have e : ∀ y : UInt8, x = y → opOf (x :: r) = opOf (y :: r) := fun y hy => by rw [hy]
    simp only [List.drop_succ_cons, List.drop_zero] at h
    rcases hx with hx | hx | hx | hx <;> rw [e _ hx] at h <;> simp [opOf, ops8, isPre, List.find?] at h <;> (rw [← h.2]; decide)
  · cases hc
theorem brace_sh {rd : Str → Nat → WR} {s : Str} {way : Nat} {out l : List Pt} (hr : ∀ s w l, rd s w = .ok l → ShW l) (h : ShW out) (hb : braceP rd s way out = .ok l) : ShW l := by
  unfold braceP at hb
  split at hb
  · injection hb with hb; subst hb
    exact h.add (.var (by decide) (by decide) (fun _ => rfl) (fun h => by cases h) .nil)
  split at hb
  · cases hb
  split at hb
  · injection hb with hb; subst hb
    exact h.add (.var (by decide) (by decide) (fun _ => rfl) (fun h => by cases h) .nil)
  · simp only at hb
    split at hb
    · cases hb
    · rename_i o op ho
      have h1 := op_rng ho
      split at hb
      · cases hb
      · rename_i w hw
        injection hb with hb; subst hb
        refine h.add (.var (by omega) (by omega) (fun _ => by omega) (fun hc => ⟨h1.1, ?_⟩) (hr _ _ _ hw))
        rw [if_pos hc] at ho
        exact colon_op hc ho
theorem thing_sh {rd : Str → Nat → WR} {t : Str} {way : Nat} {out l : List Pt} (hr : ∀ s w l, rd s w = .ok l → ShW l) (h : ShW out) (ht : thingP rd t way out = .ok l) : ShW l := by
  unfold thingP at ht
  split at ht
  · injection ht with ht; subst ht; exact h
  split at ht
  · injection ht with ht; subst ht; exact pair_sh h
  split at ht
  · split at ht
    · injection ht with ht; subst ht; exact h.add (.lit (.inl rfl))
    split at ht
    · cases ht
    · injection ht with ht; subst ht; exact h.add (.lit (.inr (by simp)))
  split at ht
  · injection ht with ht; subst ht; exact h.add (.lit (.inl rfl))
  split at ht
  · split at ht
    · cases ht
    · rename_i w hw
      injection ht with ht; subst ht
      refine ShW.fold ?_ (hr _ _ _ hw).1
      split
      · exact h.add (.lit (.inl rfl))
      · exact h
  split at ht
  · exact brace_sh hr h ht
  · injection ht with ht; subst ht; exact run_sh h
theorem rd_sh : ∀ (f : Nat) (s : Str) (way : Nat) (out l : List Pt), ShW out → rdP f s way out = .ok l → ShW l
  | 0, s, way, out, l, _, h => by cases h
  | f + 1, s, way, out, l, hf, h => by
    unfold rdP at h
    split at h
    · injection h with h; subst h; exact hf
    split at h
    · exact rd_sh f _ _ _ _ (hf.add (.var (by decide) (by decide) (fun _ => rfl) (fun h => by cases h) .nil)) h
    · split at h
      · split at h
        · rename_i out' ht
          exact rd_sh f _ _ _ _ (thing_sh (fun s w l hl => rd_sh f s w [] l .nil hl) hf ht) h
        · cases h
      · cases h
      · cases h
end Go.Proofs.YtmgdkoidgoihfaaGreatDoor

/- Words, as plain data: how one is written. Conditions: none. -/
namespace Go.Proofs.YtmgdkoidgoihfaaGreatDoor
open E Go.Lib
set_option linter.unusedVariables false
set_option linter.unusedSimpArgs false
set_option maxHeartbeats 1000000
set_option maxRecDepth 20000

def escP (set : Str) : Str → Str
  | [] => []
  | c :: s => if set.contains c = true then 92 :: c :: escP set s else c :: escP set s
def quoI : Str → Str
  | [] => []
  | c :: s => if c = 39 then 39 :: 92 :: 39 :: 39 :: quoI s else c :: quoI s
def quoteP (s : Str) : Str := 39 :: (quoI s ++ [39])
/-- A quoted Lit. -/
def litW (s : Str) (way : Nat) : Str :=
  if way = 3 then (if s = [] then [34, 34] else escP [36, 34, 92, 96, 125] s)
  else if way = 4 then 34 :: (escP [36, 34, 92, 96] s ++ [34])
  else if way = 5 then escP [36, 92, 96] s
  else quoteP s
def signP (op : Int) : Str :=
  if op = 2 then [45] else if op = 3 then [61] else if op = 4 then [63] else if op = 5 then [43]
  else if op = 6 then [35] else if op = 7 then [35, 35] else if op = 8 then [37] else if op = 9 then [37, 37] else []
def underB (way : Nat) : Bool := decide (way = 3) || decide (way = 4) || decide (way = 5)
def quoteB (way : Nat) : Bool := !(decide (way = 3) || decide (way = 5))
def nextP (q : Bool) (op : Int) (way : Nat) : Nat := if (q || underB way) = true then (if 6 ≤ op then 4 else 3) else 1
def inQ (b : Bool) (s : Str) : Str := if b = true then 34 :: (s ++ [34]) else s
mutual
def partW : Pt → Nat → Str
  | .mk k t q o c w, way =>
    if k = 1 then (if q = true then litW t way else t)
    else if k = 2 then
      (if o < 0 ∨ 9 < o then [] else
        inQ (q && quoteB way) ([36, 123] ++ ((if o = 1 then [35] else []) ++ (t ++ ((if c = true then [58] else []) ++ (if 2 ≤ o then signP o ++ writtenW w (nextP q o way) else [])))) ++ [125]))
    else if k = 3 then inQ (q && quoteB way) ([36, 40] ++ t ++ [41])
    else if k = 4 then inQ (q && quoteB way) ([36, 40, 40] ++ t ++ [41, 41])
    else []
def writtenW : List Pt → Nat → Str
  | [], _ => []
  | p :: l, way => partW p way ++ writtenW l way
end
mutual
/-- Parts and bytes, in the words in it, too. -/
def szPt : Pt → Nat
  | .mk _ t _ _ _ w => 1 + t.length + szW w
def szW : List Pt → Nat
  | [] => 0
  | p :: l => szPt p + szW l
end
mutual
/-- Is there a quoted Lit in it? -/
def hasQp : Pt → Bool
  | .mk k _ q _ _ w => (decide (k = 1) && q) || hasQ w
def hasQ : List Pt → Bool
  | [] => false
  | p :: l => hasQp p || hasQ l
end
theorem esc_len (set : Str) : ∀ s : Str, (escP set s).length ≤ 2 * s.length
  | [] => Nat.le_refl _
  | c :: s => by
    have := esc_len set s
    unfold escP
    split <;> simp only [List.length_cons] <;> omega
theorem quoI_len : ∀ s : Str, (quoI s).length ≤ 4 * s.length
  | [] => Nat.le_refl _
  | c :: s => by
    have := quoI_len s
    unfold quoI
    split <;> simp only [List.length_cons] <;> omega
theorem litW_len (s : Str) (way : Nat) : (litW s way).length ≤ 4 * s.length + 2 := by
  have h1 := esc_len [36, 34, 92, 96, 125] s
  have h2 := esc_len [36, 34, 92, 96] s
  have h3 := esc_len [36, 92, 96] s
  have h4 := quoI_len s
  unfold litW
  split
  · split
    · simp
    · omega
  split
  · simp only [List.length_cons, List.length_append, List.length_nil]; omega
  split
  · omega
  · unfold quoteP; simp only [List.length_cons, List.length_append, List.length_nil]; omega
theorem inQ_len (b : Bool) (s : Str) : (inQ b s).length ≤ s.length + 2 := by
  unfold inQ
  split
  · simp
  · omega
theorem sign_len (o : Int) : (signP o).length ≤ 2 := by
  unfold signP
  (repeat' split) <;> decide
mutual
theorem part_len : ∀ (p : Pt) (way : Nat), (partW p way).length ≤ 12 * szPt p
  | .mk k t q o c w, way => by
    have h1 := written_len w (nextP q o way)
    have h2 := litW_len t way
    have h3 := sign_len o
    unfold partW szPt
    split
    · split <;> omega
    split
    · split
      · simp
      · refine Nat.le_trans (inQ_len _ _) ?_
        simp only [List.length_append, List.length_cons, List.length_nil]
        have e1 : (if o = 1 then ([35] : Str) else []).length ≤ 1 := by split <;> simp
        have e2 : (if c = true then ([58] : Str) else []).length ≤ 1 := by split <;> simp
        have e3 : (if 2 ≤ o then signP o ++ writtenW w (nextP q o way) else []).length ≤ 2 + (writtenW w (nextP q o way)).length := by
          split
          · rw [List.length_append]; omega
          · simp
        omega
    split
    · refine Nat.le_trans (inQ_len _ _) ?_
      simp only [List.length_append, List.length_cons, List.length_nil]
      omega
    split
    · refine Nat.le_trans (inQ_len _ _) ?_
      simp only [List.length_append, List.length_cons, List.length_nil]
      omega
    · simp
theorem written_len : ∀ (w : List Pt) (way : Nat), (writtenW w way).length ≤ 12 * szW w
  | [], way => by simp [writtenW]
  | p :: l, way => by
    have h1 := part_len p way
    have h2 := written_len l way
    unfold writtenW szW
    rw [List.length_append]; omega
end
theorem sz_get : ∀ (w : List Pt) (i : Nat) (hi : i < w.length), szPt w[i] ≤ szW w
  | [], i, hi => by simp at hi
  | p :: l, 0, hi => by unfold szW; simp
  | p :: l, i + 1, hi => by
    have := sz_get l i (by simpa using hi)
    unfold szW
    simp only [List.getElem_cons_succ]; omega
theorem hasQ_get : ∀ (w : List Pt) (i : Nat) (hi : i < w.length), hasQp w[i] = true → hasQ w = true
  | [], i, hi, _ => by simp at hi
  | p :: l, 0, hi, h => by unfold hasQ; simp at h; simp [h]
  | p :: l, i + 1, hi, h => by
    have := hasQ_get l i (by simpa using hi) (by simpa using h)
    unfold hasQ
    simp [this]
theorem len_sz : ∀ w : List Pt, w.length ≤ szW w
  | [] => Nat.le_refl _
  | p :: l => by
    have := len_sz l
    cases p with
    | mk k t q o c w => unfold szW szPt; simp only [List.length_cons]; omega
theorem wr_take : ∀ (w : List Pt) (i way : Nat) (hi : i < w.length), writtenW (w.take (i + 1)) way = writtenW (w.take i) way ++ partW w[i] way
  | [], i, way, hi => by simp at hi
  | p :: l, 0, way, hi => by simp [writtenW]
  | p :: l, i + 1, way, hi => by
    have := wr_take l i way (by simpa using hi)
    simp only [List.take_succ_cons, writtenW, this, List.getElem_cons_succ, List.append_assoc]
theorem wr_len_take (w : List Pt) (i way : Nat) : (writtenW (w.take i) way).length ≤ (writtenW w way).length := by
  induction w generalizing i with
  | nil => simp [writtenW]
  | cons p l ih =>
    cases i with
    | zero => simp [writtenW]
    | succ i =>
      have := ih i
      simp only [List.take_succ_cons, writtenW, List.length_append]; omega
theorem wx5 : writtenW [.mk 2 [120] true 0 false []] 0 = [34, 36, 123, 120, 125, 34] := by simp [writtenW, partW, inQ, quoteB]
end Go.Proofs.YtmgdkoidgoihfaaGreatDoor
