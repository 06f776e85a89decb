/- Variables: the object, and what turns one. Conditions: none. -/
import Derived.Test.YtkpnackmijjciaaGreatDoorVaB
namespace Go.Proofs.YtkpnackmijjciaaGreatDoor
open E Go.Lib
set_option linter.unusedVariables false
set_option linter.unusedSimpArgs false
set_option maxHeartbeats 1000000
set_option maxRecDepth 20000

/-- A variable, but for its name. -/
structure VV where
  val : Str
  set : Bool
  exp : Bool
  ro : Bool
abbrev VL := List (Str × VV)
abbrev z0 : VV := ⟨[], false, false, false⟩
abbrev celV (n : Str) (x : VV) : List Value := [.string (bs n), .string (bs x.val), .bool x.set, .bool x.exp, .bool x.ro]
abbrev encV (n : Str) (x : VV) : Value := .agg (celV n x).toArray
def encL (l : VL) : List (Str × Value) := l.map fun p => (p.1, encV p.1 p.2)
def lkV (l : VL) (n : Str) : Option VV := (l.find? fun p => decide (p.1 = n)).map (·.2)
def getV (l : VL) (n : Str) : VV := (lkV l n).getD z0
def nmV (l : VL) (n : Str) : Str := if (lkV l n).isSome then n else []
def insV (l : VL) (n : Str) (x : VV) : VL := if (lkV l n).isSome then l.map (fun p => if p.1 = n then (n, x) else p) else l ++ [(n, x)]
def delV (l : VL) (n : Str) : VL := l.filter fun p => decide (p.1 ≠ n)
def turnV (l : VL) (n : Str) (x : VV) : VL := if x.set || x.exp || x.ro then insV l n x else delV l n
section
variable {l : VL} {n m : Str} {x : VV}
theorem lookup_encL (l : VL) (n : Str) : @List.lookup Str Value (@instBEqOfDecidableEq Str inferInstance) n (encL l) = (lkV l n).map (encV n) := by
  induction l with
  | nil => rfl
  | cons p l ih =>
    have hb : (@BEq.beq Str (@instBEqOfDecidableEq Str inferInstance) n p.1) = decide (n = p.1) := rfl
    show (match (@BEq.beq Str (@instBEqOfDecidableEq Str inferInstance) n p.1) with
      | true => some (encV p.1 p.2)
      | false => @List.lookup Str Value (@instBEqOfDecidableEq Str inferInstance) n (encL l)) = _
    rw [hb]
    unfold lkV at ih ⊢
    rw [List.find?_cons]
    by_cases h : n = p.1
    · subst h; simp
    · have h2 : ¬ p.1 = n := fun e => h e.symm
      simp only [h, h2, decide_false]
      exact ih
theorem ins_encL (l : VL) (n : Str) (x : VV) : ins (encL l) n (encV n x) = encL (insV l n x) := by
  unfold ins insV
  rw [show (@List.lookup Str Value (@instBEqOfDecidableEq Str inferInstance) n (encL l)).isSome = (lkV l n).isSome from by rw [lookup_encL, Option.isSome_map]]
  split
  · unfold encL
    rw [List.map_map, List.map_map]
    apply List.map_congr_left
    intro p _
    simp only [Function.comp]
    split <;> rfl
  · unfold encL
    rw [List.map_append]; rfl
theorem del_encL (l : VL) (n : Str) : del (encL l) n = encL (delV l n) := by
  unfold del delV encL
  rw [List.filter_map]
  rfl
theorem lk_ins : lkV (insV l n x) m = if m = n then some x else lkV l m := by
  unfold insV
  split
  · rename_i h
    induction l with
    | nil => simp [lkV] at h
    | cons p l ih =>
      unfold lkV at ih h ⊢
      rw [List.map_cons, List.find?_cons, List.find?_cons]
      rw [List.find?_cons] at h
      by_cases hp : p.1 = n
      · simp only [hp, if_true]
        by_cases hm : m = n
        · subst hm; simp
        · have : ¬ n = m := fun e => hm e.symm
          simp only [this, decide_false, hm, if_false]
          clear ih h
          induction l with
          | nil => rfl
          | cons q l ih2 =>
            rw [List.map_cons, List.find?_cons, List.find?_cons]
            by_cases hq : q.1 = n
            · simp only [hq, if_true, this, decide_false]
              exact ih2
            · simp only [hq, if_false]
              by_cases hqm : q.1 = m
              · simp [hqm]
              · simp only [hqm, decide_false]
                exact ih2
      · simp only [hp, decide_false] at h
        simp only [hp, if_false]
        by_cases hpm : p.1 = m
        · have : ¬ m = n := fun e => hp (hpm.trans e)
          simp [hpm, this]
        · simp only [hpm, decide_false]
          exact ih h
  · rename_i h
    unfold lkV at h ⊢
    rw [List.find?_append]
    by_cases hm : m = n
    · subst hm
      cases hf : l.find? (fun p => decide (p.1 = m)) with
      | none => simp
      | some q => rw [hf] at h; simp at h
    · have : ¬ n = m := fun e => hm e.symm
      simp [this, hm]
theorem lk_del : lkV (delV l n) m = if m = n then none else lkV l m := by
  unfold lkV delV
  rw [List.find?_filter]
  by_cases hm : m = n
  · subst hm
    rw [if_pos rfl]
    rw [List.find?_eq_none.2]
    · rfl
    · intro a _
      simp
  · rw [if_neg hm]
    congr 1
    congr 1
    funext a
    by_cases ha : a.1 = m
    · have : ¬ a.1 = n := fun e => hm (ha.symm.trans e)
      simp [ha, hm]
    · simp [ha]
theorem get_turn : getV (turnV l n x) m = if m = n then (if x.set || x.exp || x.ro then x else z0) else getV l m := by
  unfold turnV getV
  split
  · rw [lk_ins]; split <;> rfl
  · rw [lk_del]; split <;> rfl
theorem del_ins : delV (insV l n x) n = delV l n := by
  unfold insV delV
  split
  · rename_i h
    clear h
    induction l with
    | nil => rfl
    | cons p l ih =>
      rw [List.map_cons, List.filter_cons, List.filter_cons, ih]
      by_cases hp : p.1 = n
      · simp [hp]
      · simp [hp]
  · simp
end
end Go.Proofs.YtkpnackmijjciaaGreatDoor
