/- Nodes: what cuts and the end of a node make of a table. Conditions: as each theorem says. -/
import Derived.Test.YtmlceloabmkjmaaDoorInV
namespace Go.Proofs.YtmlceloabmkjmaaDoor
open E Go.Lib
set_option linter.unusedVariables false
set_option linter.unusedSimpArgs false
set_option maxHeartbeats 1000000
set_option maxRecDepth 20000

section
variable {st : List Bk} {l m : Pl} {B : List Int} {size : Int} {z : Nat}
def inT (st : List Bk) (b : Int) : Prop := 1 ≤ b ∧ b ≤ st.length ∧ st[(b - 1).toNat]?.map (·.1) = some true
theorem gv_same (B : List Int) {b : Int} (h1 : 1 ≤ b) (hB : b ∉ B) : (gv st B)[(b - 1).toNat]? = st[(b - 1).toNat]? := by
  by_cases hi : (b - 1).toNat < st.length
  · have hb : (((b - 1).toNat : Nat) : Int) + 1 = b := by omega
    rw [gv_get _ _ _ hi, hb, if_neg hB, List.getElem?_eq_getElem hi]
  · rw [List.getElem?_eq_none (by rw [gv_len]; omega), List.getElem?_eq_none (by omega)]
theorem free_gv : ∀ {B : List Int}, (∀ b, b ∈ B → inT st b) → B.Nodup → free (gv st B) = free st + B.length
  | [], _, _ => by rw [gv_nil]; rfl
  | b :: B, h, hn => by
    rw [List.nodup_cons] at hn
    have ih := free_gv (B := B) (fun c hc => h c (List.mem_cons_of_mem _ hc)) hn.2
    obtain ⟨h1, h2, h3⟩ := h b (by simp)
    have hg := gv_give h1 h2 h3 hn.1
    have hi : (b - 1).toNat < st.length := by omega
    have hi' : (b - 1).toNat < (gv st B).length := by rw [gv_len]; exact hi
    have hT : (gv st B)[(b - 1).toNat].1 = true := by
      have := gv_same (st := st) B h1 hn.1
      rw [List.getElem?_eq_getElem hi'] at this
      rw [← this] at h3
      exact Option.some.inj h3
    have hT' : isT (gv st B) b = true := by
      have hb : b = (((b - 1).toNat : Nat) : Int) + 1 := by omega
      rw [hb, isT_at _ _ hi']; exact hT
    unfold giveM at hg
    rw [if_pos hT'] at hg
    injection hg with _ hg
    rw [← hg]
    have := free_set (gv st B) (b - 1).toNat hi' (false, ((gv st B)[(b - 1).toNat]?.map (·.2)).getD [])
    rw [hT] at this
    have this : free ((gv st B).set (b - 1).toNat (false, ((gv st B)[(b - 1).toNat]?.map (·.2)).getD [])) + 0 = free (gv st B) + 1 := this
    rw [List.length_cons]
    omega
theorem lookup_cut (hk : Keys l) (fr p : Int) : (l.filter fun e => decide (e.1 < fr)).lookup p = if p < fr then l.lookup p else none := by
  induction l with
  | nil => simp
  | cons e l ih =>
    unfold Keys at hk
    rw [List.pairwise_cons] at hk
    have ih := ih hk.2
    rw [List.filter_cons]
    by_cases h1 : e.1 < fr
    · simp only [h1, decide_true, if_true]
      rw [List.lookup_cons, List.lookup_cons, ih]
      by_cases h2 : p = e.1
      · simp [h2, h1]
      · have : (p == e.1) = false := by simp [h2]
        rw [this]
    · simp only [h1, decide_false, Bool.false_eq_true, if_false]
      rw [ih]
      split
      · rename_i h2
        rw [List.lookup_cons]
        have : (p == e.1) = false := by simp; omega
        rw [this]
      · rfl
theorem parts_inT (h : PartsOk st l) (f : Int × Int → Bool) : (∀ b, b ∈ (l.filter f).map (·.2) → inT st b) ∧ ((l.filter f).map (·.2)).Nodup := by
  refine ⟨fun b hb => ?_, h.once.sublist (List.filter_sublist.map _)⟩
  obtain ⟨e, he, rfl⟩ := List.mem_map.1 hb
  exact h.inn e (List.mem_filter.1 he).1
/-- Parts whose blocks are none of those given back. -/
theorem parts_gv (h : PartsOk st m) (hB : ∀ e, e ∈ m → e.2 ∉ B) : PartsOk (gv st B) m ∧ ∀ e, e ∈ m → (gv st B)[(e.2 - 1).toNat]? = st[(e.2 - 1).toNat]? := by
  have h1 : ∀ e, e ∈ m → (gv st B)[(e.2 - 1).toNat]? = st[(e.2 - 1).toNat]? := fun e he => gv_same B (h.inn e he).1 (hB e he)
  refine ⟨⟨fun e he => ⟨(h.inn e he).1, by rw [gv_len]; exact (h.inn e he).2.1, by rw [h1 e he]; exact (h.inn e he).2.2⟩, h.once⟩, h1⟩
/-- What a cut makes of a node, and of the others. -/
theorem cut_ok (h : NdI st size l) (ho : Ok64 st) (hz : z ≤ 4096) :
    NdI (cutSt l st z) z (l.filter fun e => decide (e.1 < cutFr z)) ∧ (∀ j, bAt (l.filter fun e => decide (e.1 < cutFr z)) (cutSt l st z) j = if j < z then bAt l st j else 0) ∧
    (cutSt l st z).length = st.length ∧ Ok64 (cutSt l st z) ∧ free (cutSt l st z) + (l.filter fun e => decide (e.1 < cutFr z)).length = free st + l.length ∧
    (∀ b : Int, 1 ≤ b → b ≤ st.length → b ∉ l.map (·.2) → (cutSt l st z)[(b - 1).toNat]? = st[(b - 1).toNat]?) := by
  have hsep : ∀ e, e ∈ (l.filter fun e => decide (e.1 < cutFr z)) → e.2 ∉ (l.filter fun e => decide (cutFr z ≤ e.1)).map (·.2) := by
    intro e he hin
    obtain ⟨x, hx, hxe⟩ := List.mem_map.1 hin
    have h1 := List.mem_filter.1 he
    have h2 := List.mem_filter.1 hx
    have h3 := h.pok.once
    rw [List.Nodup, List.pairwise_map, List.pairwise_iff_getElem] at h3
    obtain ⟨u, hu, eu⟩ := List.getElem_of_mem h1.1
    obtain ⟨w, hw, ew⟩ := List.getElem_of_mem h2.1
    have g1 : e.1 < cutFr z := by simpa using h1.2
    have g2 : cutFr z ≤ x.1 := by simpa using h2.2
    rcases Nat.lt_trichotomy u w with hlt | rfl | hlt
    · have := h3 u w hu hw hlt; rw [eu, ew] at this; exact this hxe.symm
    · rw [eu] at ew; rw [ew] at g1; omega
    · have := h3 w u hw hu hlt; rw [eu, ew] at this; exact this hxe
  have hpok2 : PartsOk st (l.filter fun e => decide (e.1 < cutFr z)) := ⟨fun e he => h.pok.inn e (List.mem_filter.1 he).1, h.pok.once.sublist (List.filter_sublist.map _)⟩
  obtain ⟨hp1, hs1⟩ := parts_gv hpok2 hsep
  have hfree := free_gv (parts_inT h.pok fun e => decide (cutFr z ≤ e.1)).1 (parts_inT h.pok fun e => decide (cutFr z ≤ e.1)).2
  have hlens : ∀ l : Pl, (l.filter fun e => decide (e.1 < cutFr z)).length + (l.filter fun e => decide (cutFr z ≤ e.1)).length = l.length := by
    intro l
    induction l with
    | nil => rfl
    | cons e l ih =>
      rw [List.filter_cons, List.filter_cons]
      by_cases h1 : e.1 < cutFr z
      · have h2 : ¬ cutFr z ≤ e.1 := by omega
        simp only [h1, h2, decide_true, decide_false, if_true, Bool.false_eq_true, if_false, List.length_cons]
        omega
      · have h2 : cutFr z ≤ e.1 := by omega
        simp only [h1, h2, decide_true, decide_false, if_true, Bool.false_eq_true, if_false, List.length_cons]
        omega
  replace hlens := hlens l
  rw [List.length_map] at hfree
  have hk2 : Keys (l.filter fun e => decide (e.1 < cutFr z)) := h.keys.filter _
  have ho1 := gv_ok ho ((l.filter fun e => decide (cutFr z ≤ e.1)).map (·.2))
  have hlook := lookup_cut h.keys (cutFr z)
  have hoth : ∀ b : Int, 1 ≤ b → b ∉ l.map (·.2) → (gv st ((l.filter fun e => decide (cutFr z ≤ e.1)).map (·.2)))[(b - 1).toNat]? = st[(b - 1).toNat]? := fun b h1 hb => gv_same _ h1 (fun hin => hb (by
    obtain ⟨e, he, rfl⟩ := List.mem_map.1 hin
    exact List.mem_map.2 ⟨e, (List.mem_filter.1 he).1, rfl⟩))
  have hrng : ∀ e, e ∈ (l.filter fun e => decide (e.1 < cutFr z)) → 0 ≤ e.1 ∧ 64 * e.1 < (z : Int) := by
    intro e he
    have h1 := List.mem_filter.1 he
    have g1 : e.1 < cutFr z := by simpa using h1.2
    have := h.rng e h1.1
    unfold cutFr at g1
    omega
  have hmem : ∀ e, e ∈ (l.filter fun e => decide (e.1 < cutFr z)).map (·.2) → e ∈ l.map (·.2) := by
    intro b hb
    obtain ⟨e, he, rfl⟩ := List.mem_map.1 hb
    exact List.mem_map.2 ⟨e, (List.mem_filter.1 he).1, rfl⟩
  unfold cutSt
  have hlen1 := gv_len st ((l.filter fun e => decide (cutFr z ≤ e.1)).map (·.2))
  generalize (l.filter fun e => decide (e.1 < cutFr z)) = l2 at hp1 hs1 hlens hk2 hlook hrng hmem ⊢
  generalize gv st ((l.filter fun e => decide (cutFr z ≤ e.1)).map (·.2)) = st1 at hp1 hs1 hfree ho1 hoth hlen1 ⊢
  have hb1 : ∀ j, bAt l2 st1 j = if ((j / 64 : Nat) : Int) < cutFr z then bAt l st j else 0 := by
    intro j
    have : bAt l2 st1 j = bAt l2 st j := bAt_other hs1 j
    rw [this]
    unfold bAt
    rw [hlook]
    by_cases hx : ((j / 64 : Nat) : Int) < cutFr z
    · rw [if_pos hx, if_pos hx]
    · rw [if_neg hx, if_neg hx]
  have hfr : ∀ j : Nat, j < z → ((j / 64 : Nat) : Int) < cutFr z := fun j hj => by unfold cutFr; omega
  have fin : ∀ st2 : List Bk, st2.length = st.length → Ok64 st2 → PartsOk st2 l2 → free st2 = free st1 → (∀ j, bAt l2 st2 j = if j < z then bAt l st j else 0) → (∀ b : Int, 1 ≤ b → b ≤ st.length → b ∉ l.map (·.2) → st2[(b - 1).toNat]? = st1[(b - 1).toNat]?) →
      NdI st2 z l2 ∧ (∀ j, bAt l2 st2 j = if j < z then bAt l st j else 0) ∧ st2.length = st.length ∧ Ok64 st2 ∧ free st2 + l2.length = free st + l.length ∧ (∀ b : Int, 1 ≤ b → b ≤ st.length → b ∉ l.map (·.2) → st2[(b - 1).toNat]? = st[(b - 1).toNat]?) := by
    intro st2 h1 h2 h3 h4 h5 h6
    refine ⟨⟨h3, hk2, hrng, by omega, by omega, fun j hj => by rw [h5, if_neg (by omega)]⟩, h5, h1, h2, by omega, fun b hb1 hb2 hb3 => (h6 b hb1 hb2 hb3).trans (hoth b hb1 hb3)⟩
  by_cases h0 : 0 < z % 64
  · rw [if_pos h0]
    cases hx : l2.lookup ((z / 64 : Nat) : Int) with
    | some b =>
      simp only
      have hlr : (List.replicate (64 - z % 64) (0 : UInt8)).length = 64 - z % 64 := by simp
      obtain ⟨g1, g2⟩ := (Grew.refl ho1 hp1).write hx (z % 64) (List.replicate (64 - z % 64) 0) (by rw [hlr]; omega)
      have hc := g1.cnt
      refine fin _ (g1.len.trans hlen1) g1.ok g1.pok (by omega) (fun j => ?_) (fun c hc1 hc2 hc3 => g1.other c hc1 (by omega) (fun hin => hc3 (hmem c hin)))
      rw [g2, hb1, hlr]
      by_cases hj : j < z
      · rw [if_neg (by omega), if_pos (hfr j hj), if_pos hj]
      · rw [if_neg hj]
        by_cases h1 : ((j / 64 : Nat) : Int) = ((z / 64 : Nat) : Int)
        · rw [if_pos ⟨h1, by omega, by omega⟩, List.getElem?_replicate]
          split <;> rfl
        · rw [if_neg (fun hh => h1 hh.1), if_neg (by unfold cutFr; omega)]
    | none =>
      simp only
      refine fin _ hlen1 ho1 hp1 rfl (fun j => ?_) (fun c _ _ _ => rfl)
      rw [hb1]
      by_cases hj : j < z
      · rw [if_pos (hfr j hj), if_pos hj]
      · rw [if_neg hj]
        by_cases h1 : ((j / 64 : Nat) : Int) = ((z / 64 : Nat) : Int)
        · have := hb1 j
          unfold bAt at this
          rw [h1, hx] at this
          simp only at this
          rw [h1]
          unfold bAt
          rw [h1]
          exact this.symm
        · rw [if_neg (by unfold cutFr; omega)]
  · rw [if_neg h0]
    refine fin _ hlen1 ho1 hp1 rfl (fun j => ?_) (fun c _ _ _ => rfl)
    rw [hb1]
    by_cases hj : j < z
    · rw [if_pos (hfr j hj), if_pos hj]
    · rw [if_neg hj, if_neg (by unfold cutFr; omega)]
end
section
variable {ns : Nl} {st st' : List Bk} {N j z : Nat} {d d' : Nd} {l' : Pl}
/-- A node turns to other parts, which lie in blocks that were its own; what other nodes have stays. -/
theorem TInv.turn (h : TInv ns st N) (hj : ns[j]? = some (some d)) {o : Option Nd} (hsub : ∀ e, o = some e → NdI st' e.size e.parts ∧ ∀ x, x ∈ e.parts → x.2 ∈ d.parts.map (·.2)) (hl : st'.length = st.length) (ho : Ok64 st')
    (hc : free st' + plen o = free st + d.parts.length) (hot : ∀ b : Int, 1 ≤ b → b ≤ st.length → b ∉ d.parts.map (·.2) → st'[(b - 1).toNat]? = st[(b - 1).toNat]?) :
    TInv (ns.set j o) st' N ∧ ∀ (i : Nat) (e : Nd), i ≠ j → ns[i]? = some (some e) → cont st' e.size e.parts = cont st e.size e.parts := by
  have hlt := (List.getElem?_eq_some_iff.1 hj).1
  have key : ∀ (i : Nat) (e : Nd), (ns.set j o)[i]? = some (some e) → (i = j ∧ o = some e) ∨ (i ≠ j ∧ ns[i]? = some (some e)) := by
    intro i e he
    rw [List.getElem?_set] at he
    split at he
    · rename_i hi
      subst hi
      first | (rw [if_pos hlt] at he) | skip
      injection he with he
      exact .inl ⟨rfl, he⟩
    · rename_i hi; exact .inr ⟨fun e => hi e.symm, he⟩
  have oth : ∀ (i : Nat) (e : Nd), i ≠ j → ns[i]? = some (some e) → ∀ x, x ∈ e.parts → st'[(x.2 - 1).toNat]? = st[(x.2 - 1).toNat]? := fun i e hi he x hx => by
    have h1 := (h.nd i e he).pok.inn x hx
    exact hot x.2 h1.1 h1.2.1 (h.dis i j e d hi he hj x hx)
  refine ⟨⟨fun i e he => ?_, fun i1 i2 d1 d2 hne h1 h2 x hx => ?_, ho, hl.trans h.len, ?_, by rw [List.length_set]; exact h.cap⟩, fun i e hi he => cont_other (oth i e hi he)⟩
  · rcases key i e he with ⟨_, h1⟩ | ⟨hi, h1⟩
    · exact (hsub e h1).1
    · exact (h.nd i e h1).other hl (oth i e hi h1)
  · rcases key i1 d1 h1 with ⟨e1, g1⟩ | ⟨g0, g1⟩
    · rcases key i2 d2 h2 with ⟨e2, _⟩ | ⟨g3, g2⟩
      · exact absurd (e1.trans e2.symm) hne
      · intro hin
        obtain ⟨y, hy, hyx⟩ := List.mem_map.1 hin
        have := h.dis i2 j d2 d g3 g2 hj y hy
        exact this (by rw [hyx]; exact (hsub d1 g1).2 x hx)
    · rcases key i2 d2 h2 with ⟨e2, g2⟩ | ⟨g3, g2⟩
      · intro hin
        obtain ⟨y, hy, hyx⟩ := List.mem_map.1 hin
        exact h.dis i1 j d1 d g0 g1 hj x hx (by rw [← hyx]; exact (hsub d2 g2).2 y hy)
      · exact h.dis i1 i2 d1 d2 hne g1 g2 x hx
  · have := sum_set (o' := o) hj
    have h2 : free st + (ns.map plen).sum = N := h.cnt
    simp only [plen] at this hc
    show free st' + ((ns.set j o).map plen).sum = N
    omega
theorem TInv.gone (h : TInv ns st N) (hj : ns[j]? = some (some d)) : TInv (ns.set j none) (gv st (d.parts.map (·.2))) N ∧ ∀ (i : Nat) (e : Nd), i ≠ j → ns[i]? = some (some e) → cont (gv st (d.parts.map (·.2))) e.size e.parts = cont st e.size e.parts := by
  have hd := h.nd j d hj
  have hf := free_gv (st := st) (B := d.parts.map (·.2)) (fun b hb => by
    obtain ⟨e, he, rfl⟩ := List.mem_map.1 hb
    exact hd.pok.inn e he) hd.pok.once
  rw [List.length_map] at hf
  exact h.turn hj (o := none) (fun e he => by cases he) (gv_len _ _) (gv_ok h.ok _) (by simp only [plen]; omega) (fun b h1 _ hb => gv_same _ h1 hb)
theorem TInv.cut (h : TInv ns st N) (hj : ns[j]? = some (some d)) (hz : z ≤ 4096) (hp : d'.parts = d.parts.filter fun e => decide (e.1 < cutFr z)) (hs : d'.size = z) :
    TInv (ns.set j (some d')) (cutSt d.parts st z) N ∧ (∀ (i : Nat) (e : Nd), i ≠ j → ns[i]? = some (some e) → cont (cutSt d.parts st z) e.size e.parts = cont st e.size e.parts) ∧
    cont (cutSt d.parts st z) z d'.parts = ((cont st d.size d.parts) ++ List.replicate (z - d.size.toNat) 0).take z := by
  have hd := h.nd j d hj
  obtain ⟨h1, h2, h3, h4, h5, h6⟩ := cut_ok hd h.ok hz
  obtain ⟨g1, g2⟩ := h.turn hj (o := some d') (fun e he => by
    injection he with he
    subst he
    rw [hp, hs]
    refine ⟨h1, fun x hx => List.mem_map.2 ⟨x, (List.mem_filter.1 hx).1, rfl⟩⟩) h3 h4 (by simp only [plen]; rw [hp]; exact h5) h6
  refine ⟨g1, g2, ?_⟩
  apply List.ext_getElem?
  intro x
  have h0 := hd.s0
  by_cases hx : x < z
  · have e1 : (cont (cutSt d.parts st z) z d'.parts)[x]? = some (bAt d.parts st x) := by
      unfold cont
      rw [bytesOf_get _ _ _ _ _ (by simpa using hx), Nat.zero_add, hp, h2, if_pos hx]
    rw [e1, List.getElem?_take, if_pos hx]
    by_cases h7 : x < d.size.toNat
    · rw [List.getElem?_append_left (by rw [cont_len]; exact h7)]
      unfold cont
      rw [bytesOf_get _ _ _ _ _ h7, Nat.zero_add]
    · rw [List.getElem?_append_right (by rw [cont_len]; omega), cont_len, List.getElem?_replicate, if_pos (by omega), hd.zero x (by omega)]
  · rw [List.getElem?_eq_none (by rw [cont_len]; simpa using hx), List.getElem?_take, if_neg hx]
end
end Go.Proofs.YtmlceloabmkjmaaDoor
