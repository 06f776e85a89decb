/- Rows of some cells each, laid flat. Conditions: none. -/
import Derived.Test.YtkponloccimdlaaAt
namespace Go.Proofs.Ytkponloccimdlaa
open E
set_option linter.unusedVariables false
set_option linter.unusedSimpArgs false

/-! ### Rows of cells, z for each -/
section
variable {α : Type} {f : α → List Value} {z : Nat} {L : List α} {sp : List Value} {a a' : α} {i j : Nat} {v : Value}
def flat (f : α → List Value) (L : List α) (sp : List Value) : List Value := (L.map f).flatten ++ sp
theorem flat_len (hf : ∀ a, (f a).length = z) : (flat f L sp).length = L.length * z + sp.length := by
  unfold flat
  rw [List.length_append]
  congr 1
  induction L with
  | nil => simp
  | cons a L ih => rw [List.map_cons, List.flatten_cons, List.length_append, ih, hf, List.length_cons, Nat.succ_mul, Nat.add_comm]
theorem flat_split (hf : ∀ a, (f a).length = z) (hi : L[i]? = some a) : flat f L sp = (flat f (L.take i) []) ++ f a ++ flat f (L.drop (i + 1)) sp ∧ (flat f (L.take i) []).length = i * z := by
  have hlt := (List.getElem?_eq_some_iff.1 hi).1
  refine ⟨?_, ?_⟩
  · unfold flat
    conv => lhs; rw [← List.take_append_drop i L, List.drop_eq_getElem_cons hlt, (List.getElem?_eq_some_iff.1 hi).2]
    simp
  · rw [flat_len hf, List.length_take, List.length_nil]; rw [Nat.min_eq_left (by omega), Nat.add_zero]
theorem flat_get (hf : ∀ a, (f a).length = z) (hi : L[i]? = some a) (hj : j < z) : (flat f L sp)[i * z + j]? = (f a)[j]? := by
  obtain ⟨h1, h2⟩ := flat_split (sp := sp) hf hi
  rw [h1, List.append_assoc, List.getElem?_append_right (by omega), h2, List.getElem?_append_left (by rw [hf]; omega)]
  congr 1; omega
theorem flat_put (hf : ∀ a, (f a).length = z) (hi : L[i]? = some a) (a' : α) : (flat f L sp).take (i * z) ++ f a' ++ (flat f L sp).drop (i * z + z) = flat f (L.set i a') sp := by
  have hlt := (List.getElem?_eq_some_iff.1 hi).1
  have hi' : (L.set i a')[i]? = some a' := by rw [List.getElem?_set_self hlt]
  obtain ⟨h1, h2⟩ := flat_split (sp := sp) hf hi
  obtain ⟨h3, h4⟩ := flat_split (sp := sp) hf hi'
  rw [h3, h1]
  have e1 : (L.set i a').take i = L.take i := by rw [List.take_set, List.set_eq_of_length_le (by rw [List.length_take]; exact Nat.min_le_left _ _)]
  have e2 : (L.set i a').drop (i + 1) = L.drop (i + 1) := by rw [List.drop_set, if_pos (by omega)]
  rw [e1, e2]
  have e3 : (flat f (L.take i) [] ++ f a ++ flat f (L.drop (i + 1)) sp).take (i * z) = flat f (L.take i) [] := by
    rw [List.append_assoc, List.take_append_of_le_length (by omega), List.take_of_length_le (by omega)]
  have e4 : (flat f (L.take i) [] ++ f a ++ flat f (L.drop (i + 1)) sp).drop (i * z + z) = flat f (L.drop (i + 1)) sp := by
    have : (flat f (L.take i) [] ++ f a).length = i * z + z := by rw [List.length_append, h2, hf]
    rw [← this, List.drop_left]
  rw [e3, e4]
theorem flat_set (hf : ∀ a, (f a).length = z) (hi : L[i]? = some a) (hj : j < z) (ha : f a' = (f a).set j v) : (flat f L sp).set (i * z + j) v = flat f (L.set i a') sp := by
  rw [← flat_put hf hi a', ha]
  obtain ⟨h1, h2⟩ := flat_split (sp := sp) hf hi
  have e3 : (flat f L sp).take (i * z) = flat f (L.take i) [] := by
    rw [h1, List.append_assoc, List.take_append_of_le_length (by omega), List.take_of_length_le (by omega)]
  have e4 : (flat f L sp).drop (i * z + z) = flat f (L.drop (i + 1)) sp := by
    have : (flat f (L.take i) [] ++ f a).length = i * z + z := by rw [List.length_append, h2, hf]
    rw [h1, ← this, List.drop_left]
  rw [e3, e4, h1, List.append_assoc, List.append_assoc, List.set_append_right _ _ (by omega), h2, show i * z + j - i * z = j from by omega, List.set_append_left _ _ (by rw [hf]; omega)]
end
end Go.Proofs.Ytkponloccimdlaa
