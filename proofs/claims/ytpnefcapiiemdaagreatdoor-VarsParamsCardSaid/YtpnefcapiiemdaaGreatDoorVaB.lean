/- Variables: a row of texts that nothing writes, as a thing. Conditions: none. -/
import Derived.Test.YtpnefcapiiemdaaGreatDoorVaA
namespace Go.Proofs.YtpnefcapiiemdaaGreatDoor
open E Go.Lib
set_option linter.unusedVariables false
set_option linter.unusedSimpArgs false
set_option maxHeartbeats 1000000
set_option maxRecDepth 20000
/-- Texts stand in the cells from o on. -/
def StrC (cs : List Value) (o : Nat) (l : List Str) : Prop := ∀ i (hi : i < l.length), cs[o + i]? = some (.string (bs l[i])) ∧ l[i].length ≤ maxLen
/-- A row of texts. -/
def StrR (v : Value) (l : List Str) : Ck := ⟨fun F X σ => (v = .slice none 0 0 ∧ l = [] ∧ F = []) ∨ ∃ g o cap cs, v = .slice (some ⟨g, o, none⟩) l.length cap ∧ F = [g] ∧ σ.m g = some (.cells cs) ∧ l.length ≤ cap ∧ cap ≤ maxLen ∧ o + cap ≤ cs.length ∧ StrC cs o l,
  fun h hx hm => by
    rcases h with h | ⟨g, o, cap, cs, h1, h2, h3, h4⟩
    · exact .inl h
    · exact .inr ⟨g, o, cap, cs, h1, h2, (hm g (by rw [h2]; simp)).trans h3, h4⟩,
  fun h g hg => by
    rcases h with ⟨_, _, h⟩ | ⟨b, o, cap, cs, h1, h2, h3, h4⟩
    · rw [h] at hg; cases hg
    · rw [h2] at hg; simp at hg; subst hg; exact AS.lt h3⟩
section
variable {σ σ' : AS} {X : Ce} {R : List Ck} {k : Value → AS → Prop} {v : Value} {l ms : List Str} {n : Nat}
theorem StrR.get (h : Hs σ X (StrR v l :: R)) : ∃ a g o cap, v = .slice a l.length cap ∧ l.length ≤ cap ∧ cap ≤ maxLen ∧ (a = none → l = [] ∧ cap = 0) ∧ ∀ i (hi : i < l.length), a = some ⟨g, o, none⟩ ∧ ldOb (σ.c g (o + i)) (σ.m g) (o + i) = some (.string (bs l[i])) ∧ l[i].length ≤ maxLen := by
  obtain ⟨F, h1, _⟩ := h.s
  rcases h1 with ⟨rfl, rfl, _⟩ | ⟨g, o, cap, cs, rfl, _, h3, h4, h5, _, h6⟩
  · exact ⟨none, 0, 0, 0, rfl, Nat.le_refl _, by decide, fun _ => ⟨rfl, rfl⟩, fun i hi => by cases hi⟩
  · refine ⟨some ⟨g, o, none⟩, g, o, cap, rfl, h4, h5, fun h => (by cases h), fun i hi => ⟨rfl, ?_, (h6 i hi).2⟩⟩
    rw [h3]
    exact (h6 i hi).1
/-- The row without the first n texts. -/
theorem StrR.drop (h : Hs σ X (StrR v l :: R)) (hn : n ≤ l.length) : ∃ v', subLV 1 v (some (.int .i64 n)) none = some v' ∧ Hs σ X (StrR v' (l.drop n) :: R) := by
  obtain ⟨F, h1, hk⟩ := h.turn
  rcases h1 with ⟨rfl, rfl, rfl⟩ | ⟨g, o, cap, cs, rfl, rfl, h3, h4, h5, h6, h7⟩
  · have hn0 : n = 0 := by simpa using hn
    subst hn0
    exact ⟨.slice none 0 0, rfl, hk (F' := []) (Chg.refl _ _) (.inl ⟨rfl, rfl, rfl⟩) (fun g hg => by cases hg)⟩
  · refine ⟨.slice (some ⟨g, if cap = n then o else o + n, none⟩) (l.length - n) (cap - n), (sub_l _ _ _ _ _ _).trans ?_, ?_⟩
    · rw [bnd_s, bnd_n, some_bind, some_bind, cut_in 1 _ _ _ _ (by omega) (by omega) (by omega)]
      have e1 : ((n : Int)).toNat = n := by omega
      have e2 : ((l.length : Int)).toNat = l.length := by omega
      rw [e1, e2]
      by_cases hc : cap = n
      · rw [if_pos hc, if_pos hc]
      · rw [if_neg hc, if_neg hc, Option.map_some, E.add_eq, Nat.mul_one]
    · refine hk (F' := [g]) (Chg.refl _ _) (.inr ⟨g, _, cap - n, cs, by rw [List.length_drop], rfl, h3, by rw [List.length_drop]; omega, by omega, ?_, ?_⟩) (fun g hg => .inl hg)
      · split <;> omega
      · intro i hi
        rw [List.length_drop] at hi
        have := h7 (n + i) (by omega)
        have hc : cap ≠ n := by omega
        rw [if_neg hc, List.getElem_drop, show o + n + i = o + (n + i) from by omega]
        exact this
/-- Where texts may be read. -/
def TxS (σ : AS) (u : Value) (ms : List Str) : Prop := ∃ a cap, u = .slice a ms.length cap ∧ (ms = [] ∨ ∃ b o, a = some ⟨b, o, none⟩ ∧ ∀ i (hi : i < ms.length), σ.ld b (o + i) = some (.string (bs ms[i])) ∧ ms[i].length ≤ maxLen)
theorem TxS.mono {u : Value} (h : TxS σ u ms) (hl : Ce.le σ.ld σ'.ld) : TxS σ' u ms := by
  obtain ⟨a, cap, h1, h2⟩ := h
  refine ⟨a, cap, h1, ?_⟩
  rcases h2 with h2 | ⟨b, o, h3, h4⟩
  · exact .inl h2
  · exact .inr ⟨b, o, h3, fun i hi => ⟨hl _ _ _ (h4 i hi).1, (h4 i hi).2⟩⟩
theorem TxS.rep {u : Value} (h : Hs σ X R) (hr : RepL X u ms) : TxS σ u ms := by
  obtain ⟨a, b, o, cap, h1, h2, h3, h4⟩ := strs_at hr
  refine ⟨a, cap, h1, ?_⟩
  cases ms with
  | nil => exact .inl rfl
  | cons x r => exact .inr ⟨b, o, (h4 0 (by simp)).1, fun i hi => ⟨h.x _ _ _ (h4 i hi).2.1, (h4 i hi).2.2⟩⟩
theorem TxS.row {u : Value} (h : Hs σ X (StrR u ms :: R)) : TxS σ u ms := by
  obtain ⟨a, b, o, cap, h1, h2, h3, _, h4⟩ := StrR.get h
  refine ⟨a, cap, h1, ?_⟩
  cases ms with
  | nil => exact .inl rfl
  | cons x r => exact .inr ⟨b, o, (h4 0 (by simp)).1, fun i hi => ⟨by rw [ld_ob]; exact (h4 i hi).2.1, (h4 i hi).2.2⟩⟩
theorem lds_strs {b : Nat} : ∀ {ms : List Str} {o : Nat}, (∀ i (hi : i < ms.length), σ.ld b (o + i) = some (.string (bs ms[i]))) → ldsS σ b o ms.length = some (ms.map fun s => .string (bs s))
  | [], _, _ => rfl
  | m :: ms, o, h => by
    have h0 := h 0 (by simp)
    rw [Nat.add_zero] at h0
    have ih := lds_strs (ms := ms) (o := o + 1) fun i hi => by
      have := h (i + 1) (by simpa using hi)
      rw [show o + 1 + i = o + (i + 1) from by omega]; simpa using this
    show (σ.ld b o).bind (fun v => (ldsS σ b (o + 1) ms.length).map (v :: ·)) = _
    rw [h0, ih]
    rfl
theorem clone_c {u : Value} (h : Hs σ X R) (hu : TxS σ u ms) (hlen : ms.length ≤ 1000000) (hk : ∀ v' σ', Hs σ' X (StrR v' ms :: R) → k v' σ') : kCall Tryz.prog 17 [u] σ k := by
  obtain ⟨a, cap, rfl, hsrc⟩ := hu
  refine f17 ?_
  have fin : ∀ (v' : Value) (σ' : AS), OwnV σ' v' ms.length 1 (ms.map fun s => .string (bs s)) → Chg [] σ σ' → (∀ g, g ∈ ownL v' → σ.n ≤ g) → (∀ s, s ∈ ms → s.length ≤ maxLen) → k v' σ' := by
    intro v' σ' ho hc hg hml
    refine hk v' σ' ?_
    rcases ho with ⟨rfl, h0, _⟩ | ⟨g, c, sp, rfl, hm, hx, hcl, hle, hcm⟩
    · have : ms = [] := List.eq_nil_of_length_eq_zero h0
      subst this
      exact h.more (F := []) hc (.inl ⟨rfl, rfl, rfl⟩) (by simp)
    · refine h.more (F := [g]) hc (.inr ⟨g, 0, c, _, rfl, rfl, hm, hle, hcm, ?_, ?_⟩) (fun g' hg' => hg g' (by simpa [ownL] using hg'))
      · rw [hcl]; omega
      · intro i hi
        rw [Nat.zero_add, List.getElem?_append_left (by simpa using hi)]
        exact ⟨by simp [hi], hml _ (List.getElem_mem hi)⟩
  have g1 := h.new (cs := [])
  have own0 : OwnV (σ.new (.cells [])) (.slice (some ⟨σ.n, 0, none⟩) 0 0) 0 1 [] := .inr ⟨σ.n, 0, [], rfl, new_eq_, rfl, rfl, Nat.le_refl _, by decide⟩
  have go : kApp Tryz.prog 29 29 (.slice (some ⟨σ.n, 0, none⟩) 0 0) (.slice a ms.length cap) (σ.new (.cells [])) k := by
    rcases hsrc with rfl | ⟨b, o, rfl, hat⟩
    · refine app0_by (sz := 1) (bytes := 16) Tryz.underlying29 (by kernel_rfl) own0 ?_
      exact fin _ _ own0 ((Chg.refl _ _).new _) (by simp [ownL]) (fun s hs => by cases hs)
    · have hl : Ce.le σ.ld (σ.new (.cells [])).ld := ((Chg.refl [] σ).new _).le
      refine app_by (sz := 1) (news := ms.map fun s => .string (bs s)) Tryz.underlying29 (by kernel_rfl) own0 ?_ ?_ (bytes := 16) (by omega) (by unfold maxLen; omega) fun v' σ' ho hc hg => ?_
      · rw [Nat.mul_one]
        exact lds_strs fun i hi => hl _ _ _ (hat i hi).1
      · rw [List.all_map]; exact List.all_eq_true.2 fun s _ => rfl
      · rw [Nat.zero_add, List.nil_append] at ho
        refine fin v' σ' ho ?_ ?_ (fun s hs => ?_)
        · refine ⟨by have := hc.n; rw [new_n] at this; omega, fun g hg _ => ?_, hc.c⟩
          rw [hc.m g (by rw [new_n]; omega) (by simp [ownL]; omega), new_ne (by omega)]
        · intro g hg'
          rcases hg g hg' with h5 | h5
          · simp [ownL] at h5; omega
          · rw [new_n] at h5; omega
        · obtain ⟨i, hi, rfl⟩ := List.mem_iff_getElem.1 hs
          exact (hat i hi).2
  cases a with
  | none =>
    rcases hsrc with rfl | ⟨b, o, h3, _⟩
    · (try simp (maxSteps := 1000000) (dsimp := false) (disch := (first | omega | (simp only [okR]; done) | (simp only [sizeR] <;> omega) | fail)) only [↓preR, postR, ↓w_join, Nat.reduceEqDiff, Nat.reduceAdd, Nat.reduceSub, Nat.reduceMul, Int.reduceNeg, Nat.reduceLT, Int.reduceToNat, Nat.reduceLeDiff, Nat.sub_zero, F17])
      exact hk _ _ (h.more (F := []) (Chg.refl _ _) (.inl ⟨rfl, rfl, rfl⟩) (by simp))
    · cases h3
  | some p =>
    (try simp (maxSteps := 1000000) (dsimp := false) (disch := (first | omega | (simp only [okR]; done) | (simp only [sizeR] <;> omega) | fail)) only [↓preR, postR, ↓w_join, Nat.reduceEqDiff, Nat.reduceAdd, Nat.reduceSub, Nat.reduceMul, Int.reduceNeg, Nat.reduceLT, Int.reduceToNat, Nat.reduceLeDiff, Nat.sub_zero, F17])
    exact go
end
end Go.Proofs.YtpnefcapiiemdaaGreatDoor
namespace Go.Proofs.YtpnefcapiiemdaaGreatDoor
open E Go.Lib
set_option linter.unusedVariables false
set_option linter.unusedSimpArgs false
set_option maxHeartbeats 1000000
set_option maxRecDepth 20000
/-- A variable, but for its name. -/
structure VV where
  val : Str
  set : Bool
  exp : Bool
  ro : Bool
abbrev VL := List (Str × VV)
abbrev z0 : VV := ⟨[], false, false, false⟩
abbrev celV (n : Str) (x : VV) : List Value := [.string (bs n), .string (bs x.val), .bool x.set, .bool x.exp, .bool x.ro]
abbrev encV (n : Str) (x : VV) : Value := .agg (celV n x).toArray
def encL (l : VL) : List (Str × Value) := l.map fun p => (p.1, encV p.1 p.2)
def lkV (l : VL) (n : Str) : Option VV := (l.find? fun p => decide (p.1 = n)).map (·.2)
def getV (l : VL) (n : Str) : VV := (lkV l n).getD z0
def nmV (l : VL) (n : Str) : Str := if (lkV l n).isSome then n else []
def insV (l : VL) (n : Str) (x : VV) : VL := if (lkV l n).isSome then l.map (fun p => if p.1 = n then (n, x) else p) else l ++ [(n, x)]
def delV (l : VL) (n : Str) : VL := l.filter fun p => decide (p.1 ≠ n)
def turnV (l : VL) (n : Str) (x : VV) : VL := if x.set || x.exp || x.ro then insV l n x else delV l n
section
variable {l : VL} {n m : Str} {x : VV}
theorem lookup_encL (l : VL) (n : Str) : @List.lookup Str Value (@instBEqOfDecidableEq Str inferInstance) n (encL l) = (lkV l n).map (encV n) := by
  induction l with
  | nil => rfl
  | cons p l ih =>
    have hb : (@BEq.beq Str (@instBEqOfDecidableEq Str inferInstance) n p.1) = decide (n = p.1) := rfl
    show (match (@BEq.beq Str (@instBEqOfDecidableEq Str inferInstance) n p.1) with
      | true => some (encV p.1 p.2)
      | false => @List.lookup Str Value (@instBEqOfDecidableEq Str inferInstance) n (encL l)) = _
    rw [hb]
    unfold lkV at ih ⊢
    rw [List.find?_cons]
    by_cases h : n = p.1
    · subst h; simp
    · have h2 : ¬ p.1 = n := fun e => h e.symm
      simp only [h, h2, decide_false]
      exact ih
theorem ins_encL (l : VL) (n : Str) (x : VV) : ins (encL l) n (encV n x) = encL (insV l n x) := by
  unfold ins insV
  rw [show (@List.lookup Str Value (@instBEqOfDecidableEq Str inferInstance) n (encL l)).isSome = (lkV l n).isSome from by rw [lookup_encL, Option.isSome_map]]
  split
  · unfold encL
    rw [List.map_map, List.map_map]
    apply List.map_congr_left
    intro p _
    simp only [Function.comp]
    split <;> rfl
  · unfold encL
    rw [List.map_append]; rfl
theorem del_encL (l : VL) (n : Str) : del (encL l) n = encL (delV l n) := by
  unfold del delV encL
  rw [List.filter_map]
  rfl
theorem lk_ins : lkV (insV l n x) m = if m = n then some x else lkV l m := by
  unfold insV
  split
  · rename_i h
    induction l with
    | nil => simp [lkV] at h
    | cons p l ih =>
      unfold lkV at ih h ⊢
      rw [List.map_cons, List.find?_cons, List.find?_cons]
      rw [List.find?_cons] at h
      by_cases hp : p.1 = n
      · simp only [hp, if_true]
        by_cases hm : m = n
        · subst hm; simp
        · have : ¬ n = m := fun e => hm e.symm
          simp only [this, decide_false, hm, if_false]
          clear ih h
          induction l with
          | nil => rfl
          | cons q l ih2 =>
            rw [List.map_cons, List.find?_cons, List.find?_cons]
            by_cases hq : q.1 = n
            · simp only [hq, if_true, this, decide_false]
              exact ih2
            · simp only [hq, if_false]
              by_cases hqm : q.1 = m
              · simp [hqm]
              · simp only [hqm, decide_false]
                exact ih2
      · simp only [hp, decide_false] at h
        simp only [hp, if_false]
        by_cases hpm : p.1 = m
        · have : ¬ m = n := fun e => hp (hpm.trans e)
          simp [hpm, this]
        · simp only [hpm, decide_false]
          exact ih h
  · rename_i h
    unfold lkV at h ⊢
    rw [List.find?_append]
    by_cases hm : m = n
    · subst hm
      cases hf : l.find? (fun p => decide (p.1 = m)) with
      | none => simp
      | some q => rw [hf] at h; simp at h
    · have : ¬ n = m := fun e => hm e.symm
      simp [this, hm]
theorem lk_del : lkV (delV l n) m = if m = n then none else lkV l m := by
  unfold lkV delV
  rw [List.find?_filter]
  by_cases hm : m = n
  · subst hm
    rw [if_pos rfl]
    rw [List.find?_eq_none.2]
    · rfl
    · intro a _
      simp
  · rw [if_neg hm]
    congr 1
    congr 1
    funext a
    by_cases ha : a.1 = m
    · have : ¬ a.1 = n := fun e => hm (ha.symm.trans e)
      simp [ha, hm]
    · simp [ha]
end
end Go.Proofs.YtpnefcapiiemdaaGreatDoor
