/- Nodes: a table as it is seen, and what each call makes of it. Conditions: as each theorem says. -/
import Derived.Test.YtmlceloabmkjmaaDoorInW
namespace Go.Proofs.YtmlceloabmkjmaaDoor
open E Go.Lib
set_option linter.unusedVariables false
set_option linter.unusedSimpArgs false
set_option maxHeartbeats 1000000
set_option maxRecDepth 20000

/-- A node as it is seen: and which parts have a block. -/
structure NV where
  kind : Int
  names : Int
  users : Int
  data : List UInt8
  has : List Bool
abbrev TV := List (Option NV)
abbrev Op5 := Int × Int × Int × Int × List UInt8
/-- Which parts have a block, when so many bytes are written. -/
def hasW (has : List Bool) (a m : Nat) : List Bool := has.mapIdx fun p b => b || (decide (0 < m) && decide (a / 64 ≤ p) && decide (p ≤ (a + m - 1) / 64))
def dataW (s : List UInt8) (a m : Nat) (t : List UInt8) : List UInt8 :=
  if m = 0 then s else (s ++ List.replicate (a + m - s.length) 0).take a ++ t.take m ++ (s ++ List.replicate (a + m - s.length) 0).drop (a + m)
def Fits (has : List Bool) (fr a m : Nat) : Prop := (m = 0 ∨ a + m ≤ 4096) ∧ (hasW has a m).count true ≤ has.count true + fr
/-- So many bytes there is room for. -/
def IsMany (has : List Bool) (fr a len m : Nat) : Prop := m ≤ len ∧ Fits has fr a m ∧ (m = len ∨ ¬ Fits has fr a (m + 1))
section
variable {has : List Bool} {fr a len m n : Nat}
theorem hasW_len (has : List Bool) (a m : Nat) : (hasW has a m).length = has.length := by simp [hasW]
theorem hasW_get (has : List Bool) (a m p : Nat) : (hasW has a m)[p]? = has[p]?.map fun b => b || (decide (0 < m) && decide (a / 64 ≤ p) && decide (p ≤ (a + m - 1) / 64)) := by
  unfold hasW; rw [List.getElem?_mapIdx]
theorem hasW_zero (has : List Bool) (a : Nat) : hasW has a 0 = has := by
  apply List.ext_getElem?
  intro p
  rw [hasW_get]
  cases has[p]? <;> simp
theorem hasW_succ (has : List Bool) (a m : Nat) : hasW has a (m + 1) = (hasW has a m).set ((a + m) / 64) true := by
  apply List.ext_getElem?
  intro p
  rw [List.getElem?_set, hasW_get, hasW_get, hasW_len]
  by_cases hp : p < has.length
  · rw [List.getElem?_eq_getElem hp]
    simp only [Option.map_some]
    by_cases h1 : (a + m) / 64 = p
    · rw [if_pos h1, if_pos (by omega)]
      have e1 : a / 64 ≤ p := by omega
      have e2 : p ≤ (a + m) / 64 := by omega
      simp [e1, e2]
    · rw [if_neg h1]
      have e1 : (decide (0 < m + 1) && decide (a / 64 ≤ p) && decide (p ≤ (a + (m + 1) - 1) / 64)) = (decide (0 < m) && decide (a / 64 ≤ p) && decide (p ≤ (a + m - 1) / 64)) := by
        rw [Bool.eq_iff_iff]
        simp only [Bool.and_eq_true, decide_eq_true_eq]
        omega
      rw [e1]
  · rw [List.getElem?_eq_none (by omega)]
    split
    · rw [if_neg (by omega)]; rfl
    · rfl
theorem count_set_true : ∀ (l : List Bool) (p : Nat), p < l.length → (l.set p true).count true = l.count true + if l[p]? = some true then 0 else 1
  | [], p, h => by simp at h
  | b :: l, 0, _ => by cases b <;> simp
  | b :: l, p + 1, h => by
    have := count_set_true l p (by simpa using h)
    simp only [List.set_cons_succ, List.count_cons, List.getElem?_cons_succ]
    rw [this]; omega
theorem count_set_le (l : List Bool) (p : Nat) : l.count true ≤ (l.set p true).count true := by
  by_cases h : p < l.length
  · rw [count_set_true l p h]; omega
  · rw [List.set_eq_of_length_le (by omega)]; exact Nat.le_refl _
theorem Fits.down (h : Fits has fr a (m + 1)) : Fits has fr a m := by
  refine ⟨?_, ?_⟩
  · rcases h.1 with h1 | h1
    · omega
    · right; omega
  · have := h.2
    rw [hasW_succ] at this
    exact Nat.le_trans (count_set_le _ _) this
theorem Fits.le (h : Fits has fr a n) (hm : m ≤ n) : Fits has fr a m := by
  induction n with
  | zero => obtain rfl : m = 0 := by omega
            exact h
  | succ n ih =>
    by_cases h1 : m = n + 1
    · subst h1; exact h
    · exact ih h.down (by omega)
theorem Fits.none (has : List Bool) (fr a : Nat) : Fits has fr a 0 := ⟨.inl rfl, by rw [hasW_zero]; omega⟩
theorem full_many (hH : has.length = 64) (h0 : (hasW has a m)[(a + m) / 64]? = some false) (hc : (hasW has a m).count true = has.count true + fr) : ¬ Fits has fr a (m + 1) := by
  intro hf
  have h5 := hf.2
  have hlt : (a + m) / 64 < (hasW has a m).length := (List.getElem?_eq_some_iff.1 h0).1
  rw [hasW_succ, count_set_true _ _ hlt, h0, hc] at h5
  simp at h5
  omega
theorem IsMany.uniq (h1 : IsMany has fr a len m) (h2 : IsMany has fr a len n) : m = n := by
  rcases Nat.lt_trichotomy m n with h | h | h
  · rcases h1.2.2 with e | e
    · have := h2.1; omega
    · exact absurd (h2.2.1.le (by omega)) e
  · exact h
  · rcases h2.2.2 with e | e
    · have := h1.1; omega
    · exact absurd (h1.2.1.le (by omega)) e
end
/-! ### A table -/
def atV (V : TV) (i : Int) : Option NV := if 1 ≤ i then (V[(i - 1).toNat]?).join else none
abbrev putV (V : TV) (i : Int) (o : Option NV) : TV := V.set (i - 1).toNat o
def use : Option NV → Nat
  | some v => v.has.count true
  | none => 0
def used (V : TV) : Nat := (V.map use).sum
/-- What a call answers, and what it makes of a table; m: how many bytes are written, if it writes. -/
def doM : Op5 → TV → Nat → (Int × List UInt8 × Int) × TV
  | (ask, i, at_, n, data), V, m =>
    if ask = 0 then
      if n < 1 ∨ 3 < n then ((0, [], 1), V) else
      match V.findIdx? (·.isNone) with
      | none => ((0, [], 21), V)
      | some j => (((j : Int) + 1, [], 0), V.set j (some ⟨n, 0, 0, [], List.replicate 64 false⟩))
    else match atV V i with
    | none => ((0, [], 23), V)
    | some d =>
      if ask = 1 then ((0, [], 0), putV V i (some ⟨d.kind, d.names + 1, d.users, d.data, d.has⟩))
      else if ask = 2 then if d.names = 0 then ((0, [], 23), V) else ((0, [], 0), putV V i (if d.names - 1 = 0 ∧ d.users = 0 then none else some ⟨d.kind, d.names - 1, d.users, d.data, d.has⟩))
      else if ask = 3 then ((0, [], 0), putV V i (some ⟨d.kind, d.names, d.users + 1, d.data, d.has⟩))
      else if ask = 4 then if d.users = 0 then ((0, [], 23), V) else ((0, [], 0), putV V i (if d.names = 0 ∧ d.users - 1 = 0 then none else some ⟨d.kind, d.names, d.users - 1, d.data, d.has⟩))
      else if ask = 5 then if at_ < 0 ∨ n < 0 then ((0, [], 1), V) else ((0, (d.data.drop at_.toNat).take n.toNat, 0), V)
      else if ask = 6 then if at_ < 0 then ((0, [], 1), V) else
        if m = 0 then ((0, [], if data = [] then 0 else if 4096 ≤ at_ then 3 else 20), V) else
        (((m : Int), [], 0), putV V i (some ⟨d.kind, d.names, d.users, dataW d.data at_.toNat m data, hasW d.has at_.toNat m⟩))
      else if n < 0 then ((0, [], 1), V) else if 4096 < n then ((0, [], 3), V) else
        ((0, [], 0), putV V i (some ⟨d.kind, d.names, d.users, (d.data ++ List.replicate (n.toNat - d.data.length) 0).take n.toNat, d.has.mapIdx fun p b => b && decide (64 * (p : Int) < n)⟩))
def MOk (V : TV) (N : Nat) (o : Op5) (m : Nat) : Prop := ∀ d, atV V o.2.1 = some d → o.1 = 6 → 0 ≤ o.2.2.1 → IsMany d.has (N - used V) o.2.2.1.toNat o.2.2.2.2.length m
theorem doM_det {V : TV} {N : Nat} {o : Op5} {m n : Nat} (h1 : MOk V N o m) (h2 : MOk V N o n) : doM o V m = doM o V n := by
  obtain ⟨ask, i, at_, nn, data⟩ := o
  simp only [doM]
  by_cases h0 : ask = 0
  · rw [if_pos h0, if_pos h0]
  rw [if_neg h0, if_neg h0]
  cases hd : atV V i with
  | none => rfl
  | some d =>
    simp only
    by_cases h6 : ask = 6
    · by_cases ha : 0 ≤ at_
      · rw [(h1 d hd h6 ha).uniq (h2 d hd h6 ha)]
      · have : at_ < 0 := by omega
        simp only [this, if_true]
    · simp only [h6, if_false]
/-! ### A table of nodes as it is seen -/
def nvOf (st : List Bk) (d : Nd) : NV := ⟨d.kind, d.names, d.users, cont st d.size d.parts, (List.range 64).map fun p : Nat => (d.parts.lookup (p : Int)).isSome⟩
def vwT (ns : Nl) (st : List Bk) : TV := ns.map (Option.map (nvOf st))
section
variable {st st' : List Bk} {ns : Nl} {N : Nat} {d d' : Nd} {size : Int} {l l' : Pl} {i : Int} {j : Nat}
theorem vw_len (ns : Nl) (st : List Bk) : (vwT ns st).length = ns.length := by simp [vwT]
theorem vw_get (ns : Nl) (st : List Bk) (j : Nat) : (vwT ns st)[j]? = ns[j]?.map (Option.map (nvOf st)) := by simp [vwT]
theorem vw_at (ns : Nl) (st : List Bk) (i : Int) : atV (vwT ns st) i = (nodeAt ns i).map (nvOf st) := by
  unfold atV nodeAt
  split
  · rw [vw_get]
    cases ns[(i - 1).toNat]? with
    | none => rfl
    | some o => cases o <;> rfl
  · rfl
theorem len_has (h : NdI st size l) : ((List.range 64).map fun p : Nat => (l.lookup (p : Int)).isSome).count true = l.length := by
  rw [List.count_eq_countP, List.countP_map, List.countP_eq_length_filter]
  have h1 : (l.map (·.1)).Nodup := by rw [List.Nodup, List.pairwise_map]; exact h.keys
  have h2 : (((List.range 64).filter ((fun x => x == true) ∘ fun p : Nat => (l.lookup (p : Int)).isSome)).map fun i : Nat => (i : Int)).Nodup := by
    rw [List.Nodup, List.pairwise_map]
    exact (List.nodup_range.filter _).imp (fun h => by omega)
  have e1 : l.length = (l.map (·.1)).length := by simp
  have e2 : ∀ f : Nat → Bool, ((List.range 64).filter f).length = (((List.range 64).filter f).map fun i : Nat => (i : Int)).length := by simp
  rw [e1, e2]
  apply Nat.le_antisymm
  · refine List.Nodup.length_le_of_subset h2 (fun i hi => ?_)
    obtain ⟨n, hn, rfl⟩ := List.mem_map.1 hi
    have := (List.mem_filter.1 hn).2
    simp only [Function.comp_apply, beq_true] at this
    obtain ⟨b, hb⟩ := Option.isSome_iff_exists.1 this
    exact List.mem_map.2 ⟨_, pl_mem hb, rfl⟩
  · refine List.Nodup.length_le_of_subset h1 (fun i hi => ?_)
    obtain ⟨e, he, rfl⟩ := List.mem_map.1 hi
    have := h.rng e he
    have := h.s1
    refine List.mem_map.2 ⟨e.1.toNat, List.mem_filter.2 ⟨List.mem_range.2 (by omega), ?_⟩, by omega⟩
    simp only [Function.comp_apply, beq_true]
    rw [show (e.1.toNat : Int) = e.1 from by omega, key_mem h.keys he]; rfl
theorem used_vw (h : TInv ns st N) : used (vwT ns st) + free st = N := by
  rw [← h.cnt, Nat.add_comm]
  congr 1
  unfold used vwT
  rw [List.map_map]
  congr 1
  apply List.map_congr_left
  intro o ho
  obtain ⟨j, hj⟩ := List.mem_iff_getElem?.1 ho
  cases o with
  | none => rfl
  | some d => exact len_has (h.nd j d hj)
/-- A node turns, what others have stays. -/
theorem vw_set (hc : ∀ (i : Nat) (e : Nd), i ≠ j → ns[i]? = some (some e) → cont st' e.size e.parts = cont st e.size e.parts) (o : Option Nd) :
    vwT (ns.set j o) st' = (vwT ns st).set j (o.map (nvOf st')) := by
  apply List.ext_getElem?
  intro i
  rw [vw_get, List.getElem?_set, List.getElem?_set, vw_len, vw_get]
  split
  · split <;> rfl
  · rename_i hne
    cases hi : ns[i]? with
    | none => rfl
    | some o =>
      cases o with
      | none => rfl
      | some e =>
        simp only [Option.map_some]
        unfold nvOf
        rw [hc i e (fun h => hne h.symm) hi]
theorem has_write {a done : Nat} {rest : List UInt8} (hw : Wr l st a rest done l' st') : (List.range 64).map (fun p : Nat => (l'.lookup (p : Int)).isSome) = hasW ((List.range 64).map fun p : Nat => (l.lookup (p : Int)).isSome) a done := by
  apply List.ext_getElem?
  intro p
  rw [hasW_get]
  by_cases hp : p < 64
  · rw [List.getElem?_map, List.getElem?_map, List.getElem?_range hp]
    simp only [Option.map_some]
    congr 1
    rw [Bool.eq_iff_iff, hw.keys]
    simp only [Bool.or_eq_true, Bool.and_eq_true, decide_eq_true_eq]
    refine or_congr Iff.rfl ?_
    constructor
    · rintro ⟨h1, h2, h3⟩; exact ⟨⟨h1, by omega⟩, by omega⟩
    · rintro ⟨⟨h1, h2⟩, h3⟩; exact ⟨h1, by omega, by omega⟩
  · rw [List.getElem?_eq_none (by simp; omega), List.getElem?_eq_none (by simp; omega)]; rfl
theorem has_cut (hk : Keys l) (z : Nat) : (List.range 64).map (fun p : Nat => ((l.filter fun e => decide (e.1 < cutFr z)).lookup (p : Int)).isSome) = ((List.range 64).map fun p : Nat => (l.lookup (p : Int)).isSome).mapIdx fun p b => b && decide (64 * (p : Int) < (z : Int)) := by
  apply List.ext_getElem?
  intro p
  rw [List.getElem?_mapIdx]
  by_cases hp : p < 64
  · rw [List.getElem?_map, List.getElem?_map, List.getElem?_range hp]
    simp only [Option.map_some]
    congr 1
    rw [lookup_cut hk]
    by_cases h1 : (p : Int) < cutFr z
    · have : 64 * (p : Int) < z := by unfold cutFr at h1; omega
      simp [h1, this]
    · have : ¬ 64 * (p : Int) < z := by unfold cutFr at h1; omega
      simp [h1, this]
  · rw [List.getElem?_eq_none (by simp; omega), List.getElem?_eq_none (by simp; omega)]; rfl
end
end Go.Proofs.YtmlceloabmkjmaaDoor
