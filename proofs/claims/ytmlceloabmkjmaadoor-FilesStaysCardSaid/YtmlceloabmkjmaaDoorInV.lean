/- Nodes: what stays true of a table, what a node's bytes are, and what calls make of them. Conditions: as each theorem says. -/
import Derived.Test.YtmlceloabmkjmaaDoorInF
namespace Go.Proofs.YtmlceloabmkjmaaDoor
open E Go.Lib
set_option linter.unusedVariables false
set_option linter.unusedSimpArgs false
set_option maxHeartbeats 1000000
set_option maxRecDepth 20000

abbrev Keys (l : Pl) : Prop := l.Pairwise (fun a b => a.1 ≠ b.1)
/-- What stays true of a node. -/
structure NdI (st : List Bk) (size : Int) (l : Pl) : Prop where
  pok : PartsOk st l
  keys : Keys l
  rng : ∀ e, e ∈ l → 0 ≤ e.1 ∧ 64 * e.1 < size
  s0 : 0 ≤ size
  s1 : size ≤ 4096
  zero : ∀ j : Nat, size ≤ j → bAt l st j = 0
/-- A node's bytes. -/
def cont (st : List Bk) (size : Int) (l : Pl) : List UInt8 := bytesOf l st 0 size.toNat
theorem bytesOf_len (l : Pl) (st : List Bk) (a m : Nat) : (bytesOf l st a m).length = m := by simp [bytesOf]
theorem bytesOf_get (l : Pl) (st : List Bk) (a m x : Nat) (hx : x < m) : (bytesOf l st a m)[x]? = some (bAt l st (a + x)) := by simp [bytesOf, hx]
theorem cont_len (st : List Bk) (size : Int) (l : Pl) : (cont st size l).length = size.toNat := bytesOf_len _ _ _ _
theorem bytesOf_cont {st : List Bk} {size : Int} {l : Pl} (a m : Nat) (h : (a : Int) + m ≤ size) : bytesOf l st a m = ((cont st size l).drop a).take m := by
  apply List.ext_getElem?
  intro x
  by_cases hx : x < m
  · rw [bytesOf_get _ _ _ _ _ hx, List.getElem?_take, if_pos hx, List.getElem?_drop]
    unfold cont
    rw [bytesOf_get _ _ _ _ _ (by omega), Nat.zero_add]
  · rw [List.getElem?_eq_none (by rw [bytesOf_len]; omega), List.getElem?_take, if_neg hx]
theorem keys_app {l : Pl} {p b : Int} (h : Keys l) (hn : l.lookup p = none) : Keys (l ++ [(p, b)]) := by
  unfold Keys
  rw [List.pairwise_append]
  refine ⟨h, by simp, fun a ha c hc => ?_⟩
  simp at hc
  subst hc
  rintro rfl
  have : l.lookup a.1 ≠ none := by
    clear h
    induction l with
    | nil => cases ha
    | cons e l ih =>
      rw [List.lookup_cons] at hn ⊢
      split
      · simp
      · rename_i hne
        rw [hne] at hn
        rcases List.mem_cons.1 ha with rfl | ha
        · simp at hne
        · exact ih ha hn
  exact this hn
theorem key_mem {l : Pl} {p b : Int} (hk : Keys l) (h : (p, b) ∈ l) : l.lookup p = some b := by
  induction l with
  | nil => cases h
  | cons e l ih =>
    unfold Keys at hk
    rw [List.pairwise_cons] at hk
    rw [List.lookup_cons]
    rcases List.mem_cons.1 h with rfl | h
    · simp
    · have : (p == e.1) = false := by simp; exact fun he => hk.1 _ h he.symm
      rw [this]
      exact ih hk.2 h
/-- So many keys below a bound. -/
theorem keys_count {l : Pl} (hk : Keys l) (m : Nat) (h : ∀ e, e ∈ l → 0 ≤ e.1 ∧ e.1 < m) : l.length ≤ m := by
  have h1 : (l.map fun e => e.1.toNat).Nodup := by
    rw [List.Nodup, List.pairwise_map]
    refine hk.imp_of_mem (fun {a b} ha hb hab => ?_)
    have := h a ha
    have := h b hb
    omega
  have := List.Nodup.length_le_of_subset h1 (l₂ := List.range m) (fun x hx => by
    obtain ⟨e, he, rfl⟩ := List.mem_map.1 hx
    have := h e he
    exact List.mem_range.2 (by omega))
  simpa using this
theorem NdI.few {st : List Bk} {size : Int} {l : Pl} (h : NdI st size l) : (l.length : Int) ≤ (size + 63) / 64 := by
  have := keys_count h.keys ((size + 63) / 64).toNat (fun e he => by
    have := h.rng e he
    have := h.s0
    omega)
  have := h.s0
  omega
theorem NdI.zeroN (st : List Bk) : NdI st 0 [] := ⟨⟨by simp, by simp⟩, by simp [Keys], by simp, by decide, by decide, fun j _ => rfl⟩
section
variable {st st' : List Bk} {size : Int} {l l' m : Pl} {a done : Nat} {rest : List UInt8}
theorem ext_keys (hw : Wr l st a rest done l' st') (hk' : Keys l') : ∀ e, e ∈ l' → e ∈ l ∨ (0 < done ∧ ((a / 64 : Nat) : Int) ≤ e.1 ∧ e.1 ≤ (((a + done - 1) / 64 : Nat) : Int)) := by
  intro e he
  have h1 := key_mem hk' (p := e.1) (b := e.2) he
  rcases (hw.keys e.1).1 (by rw [h1]; rfl) with h2 | h2
  · obtain ⟨b, hb⟩ := Option.isSome_iff_exists.1 h2
    have := hw.grew.ext _ _ hb
    rw [h1] at this
    injection this with this
    left
    have := pl_mem hb
    rename_i hx
    rw [← hx] at this
    exact this
  · exact .inr h2
/-- A write keeps it true. -/
theorem NdI.write (h : NdI st size l) (hw : Wr l st a rest done l' st') (hk' : Keys l') (hr : a + rest.length ≤ 4096 ∨ done = 0) : NdI st' (if 0 < done then max size (a + done) else size) l' := by
  have hf := hw.fin
  have := h.s0
  have := h.s1
  refine ⟨hw.grew.pok, hk', fun e he => ?_, by split <;> omega, by split <;> omega, fun j hj => ?_⟩
  · rcases ext_keys hw hk' e he with h1 | ⟨h1, h2, h3⟩
    · have := h.rng e h1
      split <;> omega
    · rw [if_pos h1]; omega
  · rw [hw.byte]
    split at hj
    · rw [if_neg (by omega)]; exact h.zero j (by omega)
    · rw [if_neg (by omega)]; exact h.zero j (by omega)
/-- What is written is there, what was there stays. -/
theorem cont_write (h : NdI st size l) (hw : Wr l st a rest done l' st') (hd : 0 < done) :
    cont st' (max size (a + done)) l' = ((cont st size l) ++ List.replicate (a + done - size.toNat) 0).take a ++ rest.take done ++ ((cont st size l) ++ List.replicate (a + done - size.toNat) 0).drop (a + done) := by
  have h0 := h.s0
  have hf := hw.fin
  have hlen : ((cont st size l) ++ List.replicate (a + done - size.toNat) 0).length = max size.toNat (a + done) := by
    rw [List.length_append, cont_len, List.length_replicate]; omega
  have hE : ∀ x, x < max size.toNat (a + done) → ((cont st size l) ++ List.replicate (a + done - size.toNat) 0)[x]? = some (bAt l st x) := by
    intro x hx
    by_cases h1 : x < size.toNat
    · rw [List.getElem?_append_left (by rw [cont_len]; exact h1)]
      unfold cont
      rw [bytesOf_get _ _ _ _ _ h1, Nat.zero_add]
    · rw [List.getElem?_append_right (by rw [cont_len]; omega), cont_len, List.getElem?_replicate, if_pos (by omega), h.zero x (by omega)]
  generalize (cont st size l) ++ List.replicate (a + done - size.toNat) 0 = E at hlen hE
  apply List.ext_getElem?
  intro x
  have hmx : (max size ((a : Int) + done)).toNat = max size.toNat (a + done) := by omega
  by_cases hx : x < max size.toNat (a + done)
  · have e1 : (cont st' (max size ((a : Int) + done)) l')[x]? = some (bAt l' st' x) := by
      unfold cont
      rw [hmx, bytesOf_get _ _ _ _ _ hx, Nat.zero_add]
    rw [e1, hw.byte]
    by_cases h1 : x < a
    · rw [if_neg (by omega), List.append_assoc, List.getElem?_append_left (by rw [List.length_take]; omega), List.getElem?_take, if_pos h1, hE x hx]
    · by_cases h2 : x < a + done
      · rw [if_pos ⟨by omega, h2⟩, List.append_assoc, List.getElem?_append_right (by rw [List.length_take]; omega), List.length_take, List.getElem?_append_left (by rw [List.length_take]; omega), List.getElem?_take, if_pos (by omega)]
        rw [show x - min a E.length = x - a from by omega, List.getElem?_eq_getElem (by omega)]
        rfl
      · rw [if_neg (by omega), List.getElem?_append_right (by rw [List.length_append, List.length_take, List.length_take]; omega), List.getElem?_drop]
        rw [List.length_append, List.length_take, List.length_take, show a + done + (x - (min a E.length + min done rest.length)) = x from by omega, hE x hx]
  · rw [List.getElem?_eq_none (by rw [cont_len, hmx]; omega), List.getElem?_eq_none (by rw [List.length_append, List.length_append, List.length_take, List.length_take, List.length_drop]; omega)]
theorem cont_same (hw : Wr l st a rest 0 l' st') : cont st' size l' = cont st size l := by
  unfold cont bytesOf
  refine List.map_congr_left (fun x _ => ?_)
  rw [hw.byte, if_neg (by omega)]
/-- A node whose blocks are others. -/
theorem grew_other (hg : Grew l st l' st') (hm : PartsOk st m) (hd : ∀ e, e ∈ m → e.2 ∉ l.map (·.2)) : (∀ e, e ∈ m → e.2 ∉ l'.map (·.2)) ∧ (∀ e, e ∈ m → st'[(e.2 - 1).toNat]? = st[(e.2 - 1).toNat]?) := by
  have h1 : ∀ e, e ∈ m → e.2 ∉ l'.map (·.2) := by
    intro e he hin
    obtain ⟨x, hx, hxe⟩ := List.mem_map.1 hin
    rcases hg.new x.1 x.2 hx with h1 | h1
    · exact hd e he (List.mem_map.2 ⟨x, h1, hxe⟩)
    · have := (hm.inn e he).2.2
      rw [← hxe, h1] at this
      cases this
  exact ⟨h1, fun e he => hg.other e.2 (hm.inn e he).1 (hm.inn e he).2.1 (h1 e he)⟩
theorem bAt_other (h : ∀ e, e ∈ m → st'[(e.2 - 1).toNat]? = st[(e.2 - 1).toNat]?) (j : Nat) : bAt m st' j = bAt m st j := by
  unfold bAt
  cases hx : m.lookup ((j / 64 : Nat) : Int) with
  | none => rfl
  | some b =>
    have := h _ (pl_mem hx)
    simp only
    unfold bytesM
    rw [this]
theorem NdI.other (hi : NdI st size m) (hl : st'.length = st.length) (h : ∀ e, e ∈ m → st'[(e.2 - 1).toNat]? = st[(e.2 - 1).toNat]?) : NdI st' size m :=
  ⟨⟨fun e he => ⟨(hi.pok.inn e he).1, by rw [hl]; exact (hi.pok.inn e he).2.1, by rw [h e he]; exact (hi.pok.inn e he).2.2⟩, hi.pok.once⟩, hi.keys, hi.rng, hi.s0, hi.s1, fun j hj => by rw [bAt_other h]; exact hi.zero j hj⟩
theorem cont_other (h : ∀ e, e ∈ m → st'[(e.2 - 1).toNat]? = st[(e.2 - 1).toNat]?) : cont st' size m = cont st size m := by
  unfold cont bytesOf
  exact List.map_congr_left (fun x _ => bAt_other h _)
end
/-- What stays true of a table. -/
structure TInv (ns : Nl) (st : List Bk) (N : Nat) : Prop where
  nd : ∀ (j : Nat) d, ns[j]? = some (some d) → NdI st d.size d.parts
  dis : ∀ (j1 j2 : Nat) d1 d2, j1 ≠ j2 → ns[j1]? = some (some d1) → ns[j2]? = some (some d2) → ∀ e, e ∈ d1.parts → e.2 ∉ d2.parts.map (·.2)
  ok : Ok64 st
  len : st.length = N
  cnt : free st + (ns.map fun o => match o with | some d => d.parts.length | none => 0).sum = N
  cap : ns.length ≤ 1024
abbrev plen (o : Option Nd) : Nat := match o with | some d => d.parts.length | none => 0
theorem sum_set {ns : Nl} {j : Nat} {o o' : Option Nd} (hj : ns[j]? = some o) : ((ns.set j o').map plen).sum + plen o = (ns.map plen).sum + plen o' := by
  induction ns generalizing j with
  | nil => simp at hj
  | cons x ns ih =>
    cases j with
    | zero =>
      simp only [List.getElem?_cons_zero, Option.some.injEq] at hj
      subst hj
      simp only [List.set_cons_zero, List.map_cons, List.sum_cons]
      omega
    | succ j =>
      have := ih (j := j) (by simpa using hj)
      simp only [List.set_cons_succ, List.map_cons, List.sum_cons]
      omega
section
variable {ns : Nl} {st st' : List Bk} {N j a done : Nat} {d : Nd} {l' : Pl} {rest : List UInt8}
theorem TInv.start (n b : Nat) (hn : n ≤ 1024) : TInv (List.replicate n none) (fresh b) b := by
  refine ⟨fun j d h => ?_, fun j1 j2 d1 d2 _ h => ?_, ok_fresh b, by simp [fresh], ?_, by simpa using hn⟩
  · rw [List.getElem?_replicate] at h; split at h <;> simp at h
  · rw [List.getElem?_replicate] at h; split at h <;> simp at h
  · rw [free_fresh]
    have : ((List.replicate n (none : Option Nd)).map fun o => match o with | some d => d.parts.length | none => 0).sum = 0 := by
      rw [List.map_replicate]; simp
    rw [this]; rfl
/-- A node's turn that leaves its parts. -/
theorem TInv.same (h : TInv ns st N) (hj : ns[j]? = some (some d)) {d' : Nd} (hp : d'.parts = d.parts) (hs : d'.size = d.size) : TInv (ns.set j (some d')) st N := by
  have hlt := (List.getElem?_eq_some_iff.1 hj).1
  have key : ∀ (i : Nat) (e : Nd), (ns.set j (some d'))[i]? = some (some e) → ∃ e0 : Nd, ns[i]? = some (some e0) ∧ e.parts = e0.parts ∧ e.size = e0.size := by
    intro i e he
    rw [List.getElem?_set] at he
    split at he
    · rename_i hi
      subst hi
      first | (rw [if_pos hlt] at he) | skip
      injection he with he
      injection he with he
      subst he
      exact ⟨d, hj, hp, hs⟩
    · exact ⟨e, he, rfl, rfl⟩
  refine ⟨fun i e he => ?_, fun i1 i2 d1 d2 hne h1 h2 => ?_, h.ok, h.len, ?_, by rw [List.length_set]; exact h.cap⟩
  · obtain ⟨e0, h1, h2, h3⟩ := key i e he
    rw [h2, h3]; exact h.nd i e0 h1
  · obtain ⟨e1, g1, g2, _⟩ := key i1 d1 h1
    obtain ⟨e2, g3, g4, _⟩ := key i2 d2 h2
    rw [g2, g4]; exact h.dis i1 i2 e1 e2 hne g1 g3
  · have := sum_set (o' := some d') hj
    have h2 := h.cnt
    simp only [plen, hp] at this
    show free st + ((ns.set j (some d')).map plen).sum = N
    have h2 : free st + (ns.map plen).sum = N := h2
    omega
theorem TInv.made (h : TInv ns st N) (hj : ns[j]? = some none) {d' : Nd} (hp : d'.parts = []) (hs : d'.size = 0) : TInv (ns.set j (some d')) st N := by
  have hlt := (List.getElem?_eq_some_iff.1 hj).1
  have key : ∀ (i : Nat) (e : Nd), (ns.set j (some d'))[i]? = some (some e) → (i = j ∧ e = d') ∨ (i ≠ j ∧ ns[i]? = some (some e)) := by
    intro i e he
    rw [List.getElem?_set] at he
    split at he
    · rename_i hi
      subst hi
      first | (rw [if_pos hlt] at he) | skip
      injection he with he
      injection he with he
      exact .inl ⟨rfl, he.symm⟩
    · rename_i hi; exact .inr ⟨fun e => hi e.symm, he⟩
  refine ⟨fun i e he => ?_, fun i1 i2 d1 d2 hne h1 h2 x hx => ?_, h.ok, h.len, ?_, by rw [List.length_set]; exact h.cap⟩
  · rcases key i e he with ⟨_, rfl⟩ | ⟨_, h1⟩
    · rw [hp, hs]; exact NdI.zeroN st
    · exact h.nd i e h1
  · rcases key i1 d1 h1 with ⟨_, rfl⟩ | ⟨_, g1⟩
    · rw [hp] at hx; cases hx
    · rcases key i2 d2 h2 with ⟨_, rfl⟩ | ⟨_, g2⟩
      · rw [hp]; simp
      · exact h.dis i1 i2 d1 d2 hne g1 g2 x hx
  · have := sum_set (o' := some d') hj
    have h2 : free st + (ns.map plen).sum = N := h.cnt
    simp only [plen, hp, List.length_nil] at this
    show free st + ((ns.set j (some d')).map plen).sum = N
    omega
theorem TInv.write (h : TInv ns st N) (hj : ns[j]? = some (some d)) {d' : Nd} (hw : Wr d.parts st a rest done l' st') (hk : Keys l') (hr : a + rest.length ≤ 4096 ∨ done = 0) (hp : d'.parts = l') (hs : d'.size = if 0 < done then max d.size (a + done) else d.size) :
    TInv (ns.set j (some d')) st' N ∧ ∀ (i : Nat) (e : Nd), i ≠ j → ns[i]? = some (some e) → cont st' e.size e.parts = cont st e.size e.parts := by
  have hlt := (List.getElem?_eq_some_iff.1 hj).1
  have key : ∀ (i : Nat) (e : Nd), (ns.set j (some d'))[i]? = some (some e) → (i = j ∧ e = d') ∨ (i ≠ j ∧ ns[i]? = some (some e)) := by
    intro i e he
    rw [List.getElem?_set] at he
    split at he
    · rename_i hi
      subst hi
      first | (rw [if_pos hlt] at he) | skip
      injection he with he
      injection he with he
      exact .inl ⟨rfl, he.symm⟩
    · rename_i hi; exact .inr ⟨fun e => hi e.symm, he⟩
  have oth : ∀ (i : Nat) (e : Nd), i ≠ j → ns[i]? = some (some e) → (∀ x, x ∈ e.parts → x.2 ∉ l'.map (·.2)) ∧ (∀ x, x ∈ e.parts → st'[(x.2 - 1).toNat]? = st[(x.2 - 1).toNat]?) := fun i e hi he =>
    grew_other hw.grew (h.nd i e he).pok (h.dis i j e d hi he hj)
  refine ⟨⟨fun i e he => ?_, fun i1 i2 d1 d2 hne h1 h2 x hx => ?_, hw.grew.ok, hw.grew.len.trans h.len, ?_, by rw [List.length_set]; exact h.cap⟩, fun i e hi he => cont_other (oth i e hi he).2⟩
  · rcases key i e he with ⟨_, rfl⟩ | ⟨hi, h1⟩
    · rw [hp, hs]; exact (h.nd j d hj).write hw hk hr
    · exact (h.nd i e h1).other hw.grew.len (oth i e hi h1).2
  · rcases key i1 d1 h1 with ⟨e1, rfl⟩ | ⟨g0, g1⟩
    · rcases key i2 d2 h2 with ⟨e2, _⟩ | ⟨g3, g2⟩
      · exact absurd (e1.trans e2.symm) hne
      · intro hin
        obtain ⟨y, hy, hyx⟩ := List.mem_map.1 hin
        have := (oth i2 d2 g3 g2).1 y hy
        rw [hp] at hx
        exact this (List.mem_map.2 ⟨x, hx, hyx.symm⟩)
    · rcases key i2 d2 h2 with ⟨e2, rfl⟩ | ⟨g3, g2⟩
      · rw [hp]; exact (oth i1 d1 g0 g1).1 x hx
      · exact h.dis i1 i2 d1 d2 hne g1 g2 x hx
  · have := sum_set (o' := some d') hj
    have h2 : free st + (ns.map plen).sum = N := h.cnt
    have h3 := hw.grew.cnt
    simp only [plen, hp] at this
    show free st' + ((ns.set j (some d')).map plen).sum = N
    omega
end
end Go.Proofs.YtmlceloabmkjmaaDoor
