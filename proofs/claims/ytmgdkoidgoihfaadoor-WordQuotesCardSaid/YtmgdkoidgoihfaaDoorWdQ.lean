/- Words, as plain data: a text in quotes, of either kind, is one quoted Lit. Conditions: none. -/
import Derived.Test.YtmgdkoidgoihfaaDoorWdA
import Derived.Test.YtmgdkoidgoihfaaDoorLxD
namespace Go.Proofs.YtmgdkoidgoihfaaDoor
open E Go.Lib
set_option linter.unusedVariables false
set_option linter.unusedSimpArgs false
set_option maxHeartbeats 1000000
set_option maxRecDepth 20000

def escQ : Str → Str
  | [] => []
  | c :: s => if c = 39 then 39 :: 92 :: 39 :: 39 :: escQ s else c :: escQ s
def escD : Str → Str
  | [] => []
  | c :: s => if c = 36 ∨ c = 34 ∨ c = 92 ∨ c = 96 then 92 :: c :: escD s else c :: escD s
theorem add_lit (out : List Pt) (a b : Str) : addP (addP out (litP a true)) (litP b true) = addP out (litP (a ++ b) true) := by
  have last : ∀ (l : List Pt) (p : Pt), (l ++ [p])[(l ++ [p]).length - 1]? = some p := fun l p => by simp
  cases hl : out[out.length - 1]? with
  | none =>
    have e : addP out (litP a true) = out ++ [litP a true] := by unfold addP; rw [hl]
    have e2 : addP out (litP (a ++ b) true) = out ++ [litP (a ++ b) true] := by unfold addP; rw [hl]
    rw [e, e2]
    unfold addP
    rw [last]
    simp [Pt.kind, Pt.quote, Pt.more, Pt.text, Pt.op, Pt.colon, Pt.word, List.set_append_right]
  | some l =>
    have hlt := (List.getElem?_eq_some_iff.1 hl).1
    by_cases hc : l.kind = 1 ∧ l.quote = true
    · have e : ∀ t, addP out (litP t true) = out.set (out.length - 1) (l.more t) := fun t => by
        unfold addP
        rw [hl]
        have h1 : (litP t true).kind = 1 ∧ l.kind = 1 ∧ l.quote = (litP t true).quote := ⟨rfl, hc.1, hc.2⟩
        simp only [h1, and_self, if_true]
        rfl
      rw [e, e]
      unfold addP
      rw [List.length_set, List.getElem?_set_self hlt]
      have h1 : (litP b true).kind = 1 ∧ (l.more a).kind = 1 ∧ (l.more a).quote = (litP b true).quote := ⟨rfl, hc.1, hc.2⟩
      simp only [h1, and_self, if_true, List.set_set]
      simp [Pt.more, Pt.text, Pt.kind, Pt.quote, Pt.op, Pt.colon, Pt.word]
    · have e : ∀ t, addP out (litP t true) = out ++ [litP t true] := fun t => by
        unfold addP
        rw [hl]
        have : ¬ ((litP t true).kind = 1 ∧ l.kind = 1 ∧ l.quote = (litP t true).quote) := fun h => hc ⟨h.2.1, h.2.2⟩
        simp only [this, if_false]
      rw [e, e]
      unfold addP
      rw [last]
      simp [Pt.kind, Pt.quote, Pt.more, Pt.text, Pt.op, Pt.colon, Pt.word, List.set_append_right]
theorem pos_app : ∀ (a r : Str), ¬ (39 : UInt8) ∈ a → posB 39 (a ++ 39 :: r) = some a.length
  | [], r, _ => by simp [posB]
  | x :: a, r, h => by
    have h1 : ¬ x = 39 := fun e => h (by simp [e])
    have h2 : ¬ (39 : UInt8) ∈ a := fun e => h (by simp [e])
    simp only [List.cons_append, posB, h1, if_false, pos_app a r h2, Option.map_some, List.length_cons]
theorem goF (c : UInt8) (t : Str) (q d b : Bool) (deep : Nat) : ∃ f, f = 2099999 ∧ go FU none (c :: t) q d b deep = go (f + 1) none (c :: t) q d b deep := ⟨_, rfl, rfl⟩
theorem go92 (c : UInt8) (t : Str) (q d b : Bool) (deep f : Nat) : go (f + 1) none (92 :: c :: t) q d b deep = .ok 2 := by
  rw [go_n]; simp
theorem go39 (t : Str) (d b : Bool) (deep f n : Nat) (h : posB 39 t = some n) : go (f + 1) none (39 :: t) false d b deep = .ok (n + 2) := by
  rw [go_n]; simp [h]
theorem go1 (c : UInt8) (t : Str) (deep f : Nat) (h : ¬ (c = 36 ∨ c = 34 ∨ c = 92 ∨ c = 96)) : go (f + 1) none (c :: t) true false false deep = .ok 1 := by
  rw [go_n]
  simp only [not_or] at h
  simp [h]
theorem rd_single : ∀ (s a : Str) (f : Nat) (out : List Pt), ¬ (39 : UInt8) ∈ a → (39 :: (a ++ (escQ s ++ [39]))).length + 1 ≤ f → rdP f (39 :: (a ++ (escQ s ++ [39]))) 0 out = .ok (addP out (litP (a ++ s) true))
  | [], a, f, out, ha, hf => by
    obtain ⟨f, rfl⟩ : ∃ g, f = g + 2 := ⟨f - 2, by simp at hf; omega⟩
    have hp : posB 39 (a ++ (escQ [] ++ [39])) = some a.length := pos_app a [] ha
    have hg : go FU none (39 :: (a ++ (escQ [] ++ [39]))) (qOf 39 0) (!qOf 39 0) false 0 = .ok (a.length + 2) := go39 _ _ _ _ 2099999 _ hp
    have hl : (39 :: (a ++ (escQ [] ++ [39]))).length = a.length + 2 := by simp [escQ]
    unfold rdP
    simp only [show ¬ ((39 : UInt8) = 36 ∧ 0 < namedN (a ++ (escQ [] ++ [39]))) from fun h => absurd h.1 (by decide), if_false, hg]
    rw [List.take_of_length_le (by omega), List.drop_of_length_le (by omega)]
    have hm : mid (39 :: (a ++ (escQ [] ++ [39]))) = a := by simp [mid, escQ]
    have ht : thingP (fun s w => rdP (f + 1) s w []) (39 :: (a ++ (escQ [] ++ [39]))) 0 out = .ok (addP out (litP a true)) := by
      unfold thingP
      simp only [show ¬ ((39 : UInt8) = 92) from by decide, if_false, show ¬ (a ++ (escQ [] ++ [39]) = []) from by simp, if_true, hm]
    rw [ht]
    simp only
    unfold rdP
    simp
  | c :: s, a, f, out, ha, hf => by
    by_cases hc : c = 39
    · subst hc
      have e : escQ (39 :: s) = 39 :: 92 :: 39 :: 39 :: escQ s := by simp [escQ]
      rw [e] at hf ⊢
      simp only [List.length_cons, List.length_append, List.length_nil] at hf
      obtain ⟨f, rfl⟩ : ∃ g, f = g + 2 := ⟨f - 2, by omega⟩
      have e1 : (a ++ (39 :: 92 :: 39 :: 39 :: escQ s ++ [39])) = a ++ 39 :: (92 :: 39 :: (39 :: ([] ++ (escQ s ++ [39])))) := by simp
      rw [e1]
      have hp := pos_app a (92 :: 39 :: (39 :: ([] ++ (escQ s ++ [39])))) ha
      have hg : go FU none (39 :: (a ++ 39 :: (92 :: 39 :: (39 :: ([] ++ (escQ s ++ [39])))))) (qOf 39 0) (!qOf 39 0) false 0 = .ok (a.length + 2) := go39 _ _ _ _ 2099999 _ hp
      rw [show f + 2 = (f + 1) + 1 from rfl]
      conv => lhs; unfold rdP
      simp only [show ¬ ((39 : UInt8) = 36 ∧ 0 < namedN (a ++ 39 :: (92 :: 39 :: (39 :: ([] ++ (escQ s ++ [39])))))) from fun h => absurd h.1 (by decide), if_false, hg]
      have e2 : (39 :: (a ++ 39 :: (92 :: 39 :: (39 :: ([] ++ (escQ s ++ [39])))))).take (a.length + 2) = 39 :: (a ++ [39]) := by
        rw [List.take_succ_cons, List.take_append]
        simp [List.take_of_length_le]
      have e3 : (39 :: (a ++ 39 :: (92 :: 39 :: (39 :: ([] ++ (escQ s ++ [39])))))).drop (a.length + 2) = 92 :: 39 :: (39 :: ([] ++ (escQ s ++ [39]))) := by
        rw [List.drop_succ_cons, List.drop_append]
        simp
      rw [e2, e3]
      have hm : mid (39 :: (a ++ [39])) = a := by simp [mid]
      have ht : thingP (fun s w => rdP (f + 1) s w []) (39 :: (a ++ [39])) 0 out = .ok (addP out (litP a true)) := by
        unfold thingP
        simp only [show ¬ ((39 : UInt8) = 92) from by decide, if_false, show ¬ (a ++ [39] = ([] : Str)) from by simp, if_true, hm]
      rw [ht]
      simp only
      have hg2 : go FU none (92 :: 39 :: (39 :: ([] ++ (escQ s ++ [39])))) (qOf 92 0) (!qOf 92 0) false 0 = .ok 2 := go92 _ _ _ _ _ _ 2099999
      conv => lhs; unfold rdP
      simp only [show ¬ ((92 : UInt8) = 36 ∧ 0 < namedN (39 :: (39 :: ([] ++ (escQ s ++ [39]))))) from fun h => absurd h.1 (by decide), if_false, hg2]
      have e4 : (92 :: 39 :: (39 :: ([] ++ (escQ s ++ [39])))).take 2 = ([92, 39] : Str) := rfl
      have e5 : (92 :: 39 :: (39 :: ([] ++ (escQ s ++ [39])))).drop 2 = 39 :: ([] ++ (escQ s ++ [39])) := rfl
      rw [e4, e5]
      have ht2 : thingP (fun s w => rdP f s w []) [92, 39] 0 (addP out (litP a true)) = .ok (addP (addP out (litP a true)) (litP [39] true)) := by
        simp [thingP, pairP, withinB]
      rw [ht2]
      simp only
      rw [rd_single s [] f _ (by simp) (by simp; omega), add_lit, add_lit]
      simp
    · have e : escQ (c :: s) = c :: escQ s := by simp [escQ, hc]
      have e1 : a ++ (escQ (c :: s) ++ [39]) = (a ++ [c]) ++ (escQ s ++ [39]) := by rw [e]; simp
      rw [e1] at hf ⊢
      rw [rd_single s (a ++ [c]) f out (by simp [ha, Ne.symm hc]) hf]
      simp
theorem go_double : ∀ (s : Str) (f : Nat), 2 * (escD s).length + 2 ≤ f → go f (some 34) (escD s ++ [34]) true false false 1 = .ok ((escD s).length + 1)
  | [], f, hf => by
    obtain ⟨f, rfl⟩ : ∃ g, f = g + 1 := ⟨f - 1, by omega⟩
    simp only [escD, List.nil_append]
    rw [go_s]; simp
  | c :: s, f, hf => by
    by_cases hc : c = 36 ∨ c = 34 ∨ c = 92 ∨ c = 96
    · have e : escD (c :: s) = 92 :: c :: escD s := by simp [escD, hc]
      rw [e] at hf ⊢
      simp only [List.length_cons] at hf
      obtain ⟨f, rfl⟩ : ∃ g, f = g + 2 := ⟨f - 2, by omega⟩
      rw [List.cons_append, List.cons_append, show f + 2 = (f + 1) + 1 from rfl, go_s, go92]
      simp only [show ¬ ((92 : UInt8) = 34) from by decide, if_false, List.drop_succ_cons, List.drop_zero]
      rw [go_double s (f + 1) (by omega)]
      simp only [Rd.add, List.length_cons]
      congr 1; omega
    · have e : escD (c :: s) = c :: escD s := by simp [escD, hc]
      rw [e] at hf ⊢
      simp only [List.length_cons] at hf
      obtain ⟨f, rfl⟩ : ∃ g, f = g + 2 := ⟨f - 2, by omega⟩
      have h34 : ¬ c = 34 := fun h => hc (.inr (.inl h))
      rw [List.cons_append, show f + 2 = (f + 1) + 1 from rfl, go_s, go1 _ _ _ _ hc]
      simp only [h34, if_false, List.drop_succ_cons, List.drop_zero]
      rw [go_double s (f + 1) (by omega)]
      simp only [Rd.add, List.length_cons]
      congr 1; omega
theorem rd_double : ∀ (s : Str) (f : Nat) (out : List Pt), (escD s).length + 1 ≤ f → rdP f (escD s) 2 out = .ok (if s = [] then out else addP out (litP s true))
  | [], f, out, hf => by
    obtain ⟨f, rfl⟩ : ∃ g, f = g + 1 := ⟨f - 1, by omega⟩
    simp [escD, rdP]
  | c :: s, f, out, hf => by
    have tail : ∀ g, (escD s).length + 1 ≤ g → rdP g (escD s) 2 (addP out (litP [c] true)) = .ok (addP out (litP (c :: s) true)) := by
      intro g hg
      rw [rd_double s g _ hg]
      by_cases hs : s = []
      · subst hs; simp
      · rw [if_neg hs, add_lit]; rfl
    have fin : (.ok (if c :: s = [] then out else addP out (litP (c :: s) true)) : WR) = .ok (addP out (litP (c :: s) true)) := by simp
    rw [fin]
    by_cases hc : c = 36 ∨ c = 34 ∨ c = 92 ∨ c = 96
    · have e : escD (c :: s) = 92 :: c :: escD s := by simp [escD, hc]
      rw [e] at hf ⊢
      simp only [List.length_cons] at hf
      obtain ⟨f, rfl⟩ : ∃ g, f = g + 1 := ⟨f - 1, by omega⟩
      have hg : go FU none (92 :: c :: escD s) (qOf 92 2) (!qOf 92 2) false 0 = .ok 2 := go92 _ _ _ _ _ _ 2099999
      unfold rdP
      simp only [show ¬ ((92 : UInt8) = 36 ∧ 0 < namedN (c :: escD s)) from fun h => absurd h.1 (by decide), if_false, hg, List.take_succ_cons, List.take_zero, List.drop_succ_cons, List.drop_zero]
      have h10 : ¬ c = 10 := by rcases hc with h | h | h | h <;> subst h <;> decide
      have hcon : ([36, 34, 92, 96] : Str).contains c = true := by rcases hc with h | h | h | h <;> subst h <;> decide
      have ht : thingP (fun s w => rdP f s w []) [92, c] 2 out = .ok (addP out (litP [c] true)) := by
        unfold thingP pairP
        simp only [if_true, h10, if_false, hcon]
        simp [withinB]
      rw [ht]
      exact tail f (by omega)
    · have e : escD (c :: s) = c :: escD s := by simp [escD, hc]
      rw [e] at hf ⊢
      simp only [List.length_cons] at hf
      obtain ⟨f, rfl⟩ : ∃ g, f = g + 1 := ⟨f - 1, by omega⟩
      simp only [not_or] at hc
      have hq : qOf c 2 = true := by simp [qOf, hc]
      have hg : go FU none (c :: escD s) (qOf c 2) (!qOf c 2) false 0 = .ok 1 := by
        rw [hq]
        exact go1 c _ 0 2099999 (by simp [hc])
      unfold rdP
      simp only [show ¬ (c = 36 ∧ 0 < namedN (escD s)) from fun h => hc.1 h.1, if_false, hg, List.take_succ_cons, List.take_zero, List.drop_succ_cons, List.drop_zero]
      have ht : thingP (fun s w => rdP f s w []) [c] 2 out = .ok (addP out (litP [c] true)) := by
        simp [thingP, hc, withinB]
      rw [ht]
      exact tail f (by omega)
theorem wd_single (s : Str) (h : (39 :: (escQ s ++ [39])).length ≤ 4096) : wordW (39 :: (escQ s ++ [39])) 0 = .ok [litP s true] := by
  unfold wordW
  rw [if_neg (by omega)]
  have := rd_single s [] ((39 :: (escQ s ++ [39])).length + 1) [] (by simp) (Nat.le_refl _)
  rw [List.nil_append, List.nil_append] at this
  rw [this]; rfl
theorem wd_dbl (s : Str) (f : Nat) (h : (escD s).length + 1 ≤ f) (hs : (escD s).length ≤ 4096) : rdP (f + 1) (34 :: (escD s ++ [34])) 0 [] = .ok [litP s true] := by
  have hq : qOf 34 0 = false := rfl
  have hl : (34 :: (escD s ++ [34])).length = (escD s).length + 2 := by simp
  have hg : go FU none (34 :: (escD s ++ [34])) (qOf 34 0) (!qOf 34 0) false 0 = .ok ((escD s).length + 2) := by
    show go (2099999 + 1) none (34 :: (escD s ++ [34])) (qOf 34 0) (!qOf 34 0) false 0 = _
    rw [hq, go_n]
    have := go_double s 2099999 (by omega)
    simp only [show ¬ ((34 : UInt8) = 92) from by decide, show ¬ ((34 : UInt8) = 39 ∧ false = false) from by decide, show ((34 : UInt8) = 34 ∧ (!false) = true) from by decide, if_false, if_true, shut]
    rw [this]
    simp only [show ¬ (40 ≤ 0) from by decide, if_false]
    exact congrArg Rd.ok (by omega)
  have hm : mid (34 :: (escD s ++ [34])) = escD s := by simp [mid]
  have hrd := rd_double s f [] (by omega)
  have ht : thingP (fun s w => rdP f s w []) (34 :: (escD s ++ [34])) 0 [] = .ok [litP s true] := by
    unfold thingP
    simp only [show ¬ ((34 : UInt8) = 92) from by decide, show ¬ ((34 : UInt8) = 39) from by decide, show ¬ (escD s ++ [34] = ([] : Str)) from by simp, if_false, if_true, hm, hrd]
    by_cases hs : s = []
    · subst hs; rfl
    · simp only [hs, if_false]; rfl
  unfold rdP
  simp only [show ¬ ((34 : UInt8) = 36 ∧ 0 < namedN (escD s ++ [34])) from fun h => absurd h.1 (by decide), if_false, hg]
  rw [show (34 :: (escD s ++ [34])).take ((escD s).length + 2) = 34 :: (escD s ++ [34]) from List.take_of_length_le (by omega), show (34 :: (escD s ++ [34])).drop ((escD s).length + 2) = [] from List.drop_of_length_le (by omega), ht]
  obtain ⟨g, rfl⟩ : ∃ g, f = g + 1 := ⟨f - 1, by omega⟩
  simp only
  unfold rdP
  rfl
theorem wd_double (s : Str) (h : (34 :: (escD s ++ [34])).length ≤ 4096) : wordW (34 :: (escD s ++ [34])) 0 = .ok [litP s true] := by
  unfold wordW
  rw [if_neg (by omega)]
  have hl : (34 :: (escD s ++ [34])).length = (escD s).length + 2 := by simp
  exact wd_dbl s _ (by omega) (by omega)
end Go.Proofs.YtmgdkoidgoihfaaDoor
