/- Nodes: what each call answers and makes of a table as it is seen. Conditions: as each theorem says. -/
import Derived.Test.YtmlceloabmkjmaaDoorInM
namespace Go.Proofs.YtmlceloabmkjmaaDoor
open E Go.Lib
set_option linter.unusedVariables false
set_option linter.unusedSimpArgs false
set_option maxHeartbeats 1000000
set_option maxRecDepth 20000

structure TbX where
  nb : Nat
  sp : Nat
  st : List Bk
  ns : Nl
/-- A table, as one thing: N blocks, V what is seen. -/
def Tb (t N : Nat) (V : TV) : Ck := Exs (fun x : TbX => TInv x.ns x.st N ∧ vwT x.ns x.st = V) fun x => Cel t [.slice (some ⟨x.nb, 0, none⟩) x.ns.length x.ns.length, pp x.sp] :: Cel x.nb (x.ns.map ndV) :: StC x.sp x.st :: x.ns.map NdK
section
variable {σ σ' : AS} {X : Ce} {R : List Ck} {k : Value → AS → Prop} {t nb sp N : Nat} {st : List Bk} {ns : Nl} {d : Nd} {V : TV} {i at_ n : Int} {j : Nat} {data : List UInt8}
theorem Tb.open (h : Hs σ X (Tb t N V :: R)) : ∃ nb sp st ns, TInv ns st N ∧ vwT ns st = V ∧ Hs σ X (TL t nb sp st ns R) := by
  obtain ⟨x, ⟨h1, h2⟩, h3⟩ := h.opened
  exact ⟨_, _, _, _, h1, h2, h3⟩
theorem Tb.close (h : Hs σ X (TL t nb sp st ns R)) (hi : TInv ns st N) : Hs σ X (Tb t N (vwT ns st) :: R) :=
  Hs.closed (p := fun x : TbX => TInv x.ns x.st N ∧ vwT x.ns x.st = vwT ns st) ⟨nb, sp, st, ns⟩ ⟨hi, rfl⟩ h
theorem Tb.close' (h : Hs σ X (TL t nb sp st ns R)) (hi : TInv ns st N) (hv : vwT ns st = V) : Hs σ X (Tb t N V :: R) := hv ▸ Tb.close h hi
theorem vw_none (ns : Nl) (st : List Bk) : (vwT ns st).findIdx? (·.isNone) = ns.findIdx? (·.isNone) := by
  unfold vwT
  rw [List.findIdx?_map]
  congr 1
  funext o; cases o <;> rfl
theorem atV_none (h : nodeAt ns i = none) : atV (vwT ns st) i = none := by rw [vw_at, h]; rfl
theorem atV_some (h : nodeAt ns i = some d) : atV (vwT ns st) i = some (nvOf st d) := by rw [vw_at, h]; rfl
theorem vnew_c {a b : Int} (h : Hs σ X R) (hb : (a < 1 ∨ 1024 < a ∨ b < 1 ∨ 4096 < b) → k (.tuple #[.pointer none, .int .i64 1]) σ)
    (hk : ∀ t σ', 1 ≤ a → a ≤ 1024 → 1 ≤ b → b ≤ 4096 → Hs σ' X (Tb t b.toNat (List.replicate a.toNat none) :: R) → k (.tuple #[pp t, .int .i64 0]) σ') :
    kCall Tryd.prog 18 [.int .i64 a, .int .i64 b] σ k :=
  inew_c h hb fun t nb sp σ' h1 h2 h3 h4 h5 => hk t σ' h1 h2 h3 h4 (Tb.close' h5 (TInv.start _ _ (by omega)) (by simp [vwT]))
theorem vkind_c (h : Hs σ X (Tb t N V :: R)) (hk : k (.int .i64 (((atV V i).map (·.kind)).getD 0)) σ) : kCall Tryd.prog 22 [pp t, .int .i64 i] σ k := by
  obtain ⟨nb, sp, st, ns, hi, rfl, h1⟩ := Tb.open h
  refine kind_c h1 hi.cap ?_
  rw [vw_at] at hk
  cases hd : nodeAt ns i <;> (rw [hd] at hk; exact hk)
theorem vsize_c (h : Hs σ X (Tb t N V :: R)) (hk : k (.int .i64 (((atV V i).map fun d => (d.data.length : Int)).getD 0)) σ) : kCall Tryd.prog 26 [pp t, .int .i64 i] σ k := by
  obtain ⟨nb, sp, st, ns, hi, rfl, h1⟩ := Tb.open h
  refine size_c h1 hi.cap ?_
  rw [vw_at] at hk
  cases hd : nodeAt ns i with
  | none => rw [hd] at hk; exact hk
  | some d =>
    rw [hd] at hk
    have := (hi.nd _ _ (nodeAt_some hd).2.2).s0
    have e : ((nvOf st d).data.length : Int) = d.size := by
      show ((cont st d.size d.parts).length : Int) = _
      rw [cont_len]; omega
    simp only [Option.map_some, Option.getD_some, e] at hk ⊢
    exact hk
theorem vlinks_c (h : Hs σ X (Tb t N V :: R)) (hk : k (.int .i64 (((atV V i).map (·.names)).getD 0)) σ) : kCall Tryd.prog 72 [pp t, .int .i64 i] σ k := by
  obtain ⟨nb, sp, st, ns, hi, rfl, h1⟩ := Tb.open h
  refine links_c h1 hi.cap ?_
  rw [vw_at] at hk
  cases hd : nodeAt ns i <;> (rw [hd] at hk; exact hk)
theorem vfree_c (h : Hs σ X (Tb t N V :: R)) (hk : used V ≤ N → k (.tuple #[.int .i64 (V.countP (·.isNone)), .int .i64 ((N - used V : Nat) : Int)]) σ) : kCall Tryd.prog 31 [pp t] σ k := by
  obtain ⟨nb, sp, st, ns, hi, rfl, h1⟩ := Tb.open h
  refine free_c h1 hi.cap ?_
  have hu := used_vw hi
  have e : (vwT ns st).countP (·.isNone) = ns.countP (·.isNone) := by
    unfold vwT
    rw [List.countP_map]
    congr 1
    funext o; cases o <;> rfl
  rw [e, show N - used (vwT ns st) = free st from by omega] at hk
  exact hk (by omega)
theorem vmake_c (h : Hs σ X (Tb t N V :: R)) (hk : ∀ σ', Hs σ' X (Tb t N (doM (0, i, at_, n, data) V 0).2 :: R) → k (.tuple #[.int .i64 (doM (0, i, at_, n, data) V 0).1.1, .int .i64 (doM (0, i, at_, n, data) V 0).1.2.2]) σ') :
    kCall Tryd.prog 19 [pp t, .int .i64 n] σ k := by
  obtain ⟨nb, sp, st, ns, hi, rfl, h1⟩ := Tb.open h
  simp only [doM, if_true] at hk
  refine make_c h1 hi.cap (fun hb => ?_) (fun h2 h3 h4 => ?_) (fun j q m σ' h2 h3 h4 h5 h6 => ?_)
  · rw [if_pos hb] at hk
    exact hk _ (Tb.close h1 hi)
  · rw [if_neg (by omega), vw_none] at hk
    have : ns.findIdx? (·.isNone) = none := by
      rw [List.findIdx?_eq_none_iff]
      intro o ho
      obtain ⟨j, hj⟩ := List.mem_iff_getElem?.1 ho
      cases o with
      | none => exact absurd hj (h4 j (List.getElem?_eq_some_iff.1 hj).1)
      | some d => rfl
    rw [this] at hk
    exact hk _ (Tb.close h1 hi)
  · rw [if_neg (by omega), vw_none] at hk
    have hlt := (List.getElem?_eq_some_iff.1 h4).1
    have : ns.findIdx? (·.isNone) = some j := by
      rw [List.findIdx?_eq_some_iff_getElem]
      refine ⟨hlt, ?_, fun i hi => ?_⟩
      · rw [(List.getElem?_eq_some_iff.1 h4).2]; rfl
      · have := h5 i hi
        rw [List.getElem?_eq_getElem (by omega)] at this
        cases hx : ns[i]'(by omega) with
        | none => rw [hx] at this; exact absurd rfl this
        | some d => simp
    rw [this] at hk
    have hi' := hi.made h4 (d' := ⟨q, m, 0, 0, n, 0, []⟩) rfl rfl
    refine hk _ (Tb.close' h6 hi' ?_)
    rw [vw_set (fun _ _ _ _ => rfl)]
    rfl
theorem vtie_c (h : Hs σ X (Tb t N V :: R)) (hm : ∀ d, atV V i = some d → -1000000 ≤ d.names ∧ d.names ≤ 1000000) (hk : ∀ σ', Hs σ' X (Tb t N (doM (1, i, at_, n, data) V 0).2 :: R) → k (.int .i64 (doM (1, i, at_, n, data) V 0).1.2.2) σ') :
    kCall Tryd.prog 20 [pp t, .int .i64 i] σ k := by
  obtain ⟨nb, sp, st, ns, hi, rfl, h1⟩ := Tb.open h
  simp only [doM] at hk
  refine tie_c h1 hi.cap (fun hd => ?_) (fun d hd => hm _ (atV_some hd)) (fun d σ' hd h2 => ?_)
  · rw [atV_none hd] at hk; exact hk _ (Tb.close h1 hi)
  · rw [atV_some hd] at hk
    refine hk _ (Tb.close' h2 (hi.same (nodeAt_some hd).2.2 rfl rfl) ?_)
    rw [vw_set (fun _ _ _ _ => rfl)]
    rfl
theorem vhold_c (h : Hs σ X (Tb t N V :: R)) (hm : ∀ d, atV V i = some d → -1000000 ≤ d.users ∧ d.users ≤ 1000000) (hk : ∀ σ', Hs σ' X (Tb t N (doM (3, i, at_, n, data) V 0).2 :: R) → k (.int .i64 (doM (3, i, at_, n, data) V 0).1.2.2) σ') :
    kCall Tryd.prog 41 [pp t, .int .i64 i] σ k := by
  obtain ⟨nb, sp, st, ns, hi, rfl, h1⟩ := Tb.open h
  simp only [doM] at hk
  refine hold_c h1 hi.cap (fun hd => ?_) (fun d hd => hm _ (atV_some hd)) (fun d σ' hd h2 => ?_)
  · rw [atV_none hd] at hk; exact hk _ (Tb.close h1 hi)
  · rw [atV_some hd] at hk
    refine hk _ (Tb.close' h2 (hi.same (nodeAt_some hd).2.2 rfl rfl) ?_)
    rw [vw_set (fun _ _ _ _ => rfl)]
    rfl
theorem vuntie_c (h : Hs σ X (Tb t N V :: R)) (hm : ∀ d, atV V i = some d → -1000000 ≤ d.names ∧ d.names ≤ 1000000) (hk : ∀ σ', Hs σ' X (Tb t N (doM (2, i, at_, n, data) V 0).2 :: R) → k (.int .i64 (doM (2, i, at_, n, data) V 0).1.2.2) σ') :
    kCall Tryd.prog 48 [pp t, .int .i64 i] σ k := by
  obtain ⟨nb, sp, st, ns, hi, rfl, h1⟩ := Tb.open h
  simp only [doM] at hk
  refine untie_c h1 hi.cap (fun hd => ?_) (fun d hd => ?_) (fun d hd h0 => ?_) (fun d σ' hd h0 h01 h2 => ?_) (fun d σ' hd h0 h01 h02 h2 => ?_)
  · rw [atV_none hd] at hk; exact hk _ (Tb.close h1 hi)
  · have hn := hi.nd _ _ (nodeAt_some hd).2.2
    exact ⟨hn.pok, fun p hp => (hn.rng p hp).1, hm _ (atV_some hd)⟩
  · rw [atV_some hd] at hk
    simp only [nvOf, h0, if_true] at hk
    exact hk _ (Tb.close h1 hi)
  · rw [atV_some hd] at hk
    simp only [nvOf, h0, if_true, if_false, h01] at hk
    refine hk _ (Tb.close' h2 (hi.same (nodeAt_some hd).2.2 rfl rfl) ?_)
    rw [vw_set (fun _ _ _ _ => rfl)]
    rfl
  · rw [atV_some hd] at hk
    simp only [nvOf, h0, if_true, if_false, h01, h02, and_self] at hk
    have hg := hi.gone (nodeAt_some hd).2.2
    refine hk _ (Tb.close' h2 hg.1 ?_)
    rw [vw_set hg.2]
    rfl
theorem vloose_c (h : Hs σ X (Tb t N V :: R)) (hm : ∀ d, atV V i = some d → -1000000 ≤ d.users ∧ d.users ≤ 1000000) (hk : ∀ σ', Hs σ' X (Tb t N (doM (4, i, at_, n, data) V 0).2 :: R) → k (.int .i64 (doM (4, i, at_, n, data) V 0).1.2.2) σ') :
    kCall Tryd.prog 45 [pp t, .int .i64 i] σ k := by
  obtain ⟨nb, sp, st, ns, hi, rfl, h1⟩ := Tb.open h
  simp only [doM] at hk
  refine loose_c h1 hi.cap (fun hd => ?_) (fun d hd => ?_) (fun d hd h0 => ?_) (fun d σ' hd h0 h01 h2 => ?_) (fun d σ' hd h0 h01 h02 h2 => ?_)
  · rw [atV_none hd] at hk; exact hk _ (Tb.close h1 hi)
  · have hn := hi.nd _ _ (nodeAt_some hd).2.2
    exact ⟨hn.pok, fun p hp => (hn.rng p hp).1, hm _ (atV_some hd)⟩
  · rw [atV_some hd] at hk
    simp only [nvOf, h0, if_true] at hk
    exact hk _ (Tb.close h1 hi)
  · rw [atV_some hd] at hk
    simp only [nvOf, h0, if_true, if_false, h01] at hk
    refine hk _ (Tb.close' h2 (hi.same (nodeAt_some hd).2.2 rfl rfl) ?_)
    rw [vw_set (fun _ _ _ _ => rfl)]
    rfl
  · rw [atV_some hd] at hk
    simp only [nvOf, h0, if_true, if_false, h01, h02, and_self] at hk
    have hg := hi.gone (nodeAt_some hd).2.2
    refine hk _ (Tb.close' h2 hg.1 ?_)
    rw [vw_set hg.2]
    rfl
theorem vread_c (h : Hs σ X (Tb t N V :: R)) (hk : ∀ σ', Hs σ' X (Tb t N V :: R) → k (.tuple #[.string (bs (doM (5, i, at_, n, data) V 0).1.2.1), .int .i64 (doM (5, i, at_, n, data) V 0).1.2.2]) σ') :
    kCall Tryd.prog 29 [pp t, .int .i64 i, .int .i64 at_, .int .i64 n] σ k := by
  obtain ⟨nb, sp, st, ns, hi, rfl, h1⟩ := Tb.open h
  simp only [doM] at hk
  refine iread_c h1 hi.cap (fun hd => ?_) (fun d hd => ?_) (fun d hd h0 => ?_) (fun d hd h0 h01 h02 => ?_) (fun d σ' hd h0 h01 h02 h2 => ?_)
  · rw [atV_none hd] at hk; exact hk _ (Tb.close h1 hi)
  · have hn := hi.nd _ _ (nodeAt_some hd).2.2
    exact ⟨hn.pok, hn.s0, hn.s1⟩
  · rw [atV_some hd] at hk
    simp only [h0, if_true] at hk
    exact hk _ (Tb.close h1 hi)
  · rw [atV_some hd] at hk
    have : ¬ (at_ < 0 ∨ n < 0) := by omega
    have e : ((nvOf st d).data.drop at_.toNat).take n.toNat = [] := by
      rw [List.drop_of_length_le, List.take_nil]
      show (cont st d.size d.parts).length ≤ _
      rw [cont_len]; omega
    simp only [this, if_false, e] at hk
    exact hk _ (Tb.close h1 hi)
  · rw [atV_some hd] at hk
    have : ¬ (at_ < 0 ∨ n < 0) := by omega
    have hn := hi.nd _ _ (nodeAt_some hd).2.2
    have e : ((nvOf st d).data.drop at_.toNat).take n.toNat = bytesOf d.parts st at_.toNat (min n (d.size - at_)).toNat := by
      rw [bytesOf_cont (size := d.size) _ _ (by omega)]
      show ((cont st d.size d.parts).drop _).take _ = _
      have hl := cont_len st d.size d.parts
      generalize cont st d.size d.parts = x at hl ⊢
      by_cases h3 : n ≤ d.size - at_
      · rw [show min n (d.size - at_) = n from by omega]
      · rw [List.take_of_length_le (by rw [List.length_drop]; omega), List.take_of_length_le (by rw [List.length_drop]; omega)]
    simp only [this, if_false, e] at hk
    exact hk _ (Tb.close h2 hi)
theorem vcut_c (h : Hs σ X (Tb t N V :: R)) (hsz : -9223372036854775808 ≤ n) (hk : ∀ σ', Hs σ' X (Tb t N (doM (7, i, at_, n, data) V 0).2 :: R) → k (.int .i64 (doM (7, i, at_, n, data) V 0).1.2.2) σ') :
    kCall Tryd.prog 40 [pp t, .int .i64 i, .int .i64 n] σ k := by
  obtain ⟨nb, sp, st, ns, hi, rfl, h1⟩ := Tb.open h
  simp only [doM] at hk
  refine icut_c h1 hi.cap hsz (fun hd => ?_) (fun d hd => ?_) (fun d hd h0 => ?_) (fun d hd h0 => ?_) (fun d σ' hd h0 h01 h2 => ?_)
  · rw [atV_none hd] at hk; exact hk _ (Tb.close h1 hi)
  · exact (hi.nd _ _ (nodeAt_some hd).2.2).pok
  · rw [atV_some hd] at hk
    simp only [h0, if_true] at hk
    exact hk _ (Tb.close h1 hi)
  · rw [atV_some hd] at hk
    have h3 : ¬ n < 0 := by omega
    simp only [h0, h3, if_true, if_false] at hk
    exact hk _ (Tb.close h1 hi)
  · rw [atV_some hd] at hk
    have h3 : ¬ n < 0 := by omega
    have h4 : ¬ 4096 < n := by omega
    have hj := (nodeAt_some hd).2.2
    have hz : ((n.toNat : Nat) : Int) = n := by omega
    obtain ⟨g1, g2, g3⟩ := hi.cut hj (z := n.toNat) (d' := ⟨d.q, d.m, d.names, d.users, d.kind, n, d.parts.filter fun p => decide (p.1 < cutFr n.toNat)⟩) (by omega) rfl hz.symm
    have g4 := has_cut (hi.nd _ _ hj).keys n.toNat
    rw [hz] at g3 g4
    have hl := cont_len st d.size d.parts
    simp only [h3, h4, if_false] at hk
    refine hk _ (Tb.close' h2 g1 ?_)
    rw [vw_set g2]
    have e1 : nvOf (cutSt d.parts st n.toNat) ⟨d.q, d.m, d.names, d.users, d.kind, n, d.parts.filter fun p => decide (p.1 < cutFr n.toNat)⟩ = ⟨d.kind, d.names, d.users, ((nvOf st d).data ++ List.replicate (n.toNat - (nvOf st d).data.length) 0).take n.toNat, (nvOf st d).has.mapIdx fun p b => b && decide (64 * (p : Int) < n)⟩ := by
      unfold nvOf
      simp only [NV.mk.injEq, true_and]
      refine ⟨?_, g4⟩
      rw [g3, hl]
    rw [Option.map_some, e1]
    rfl
theorem vwrite_c (h : Hs σ X (Tb t N V :: R)) (hat : at_ ≤ 9223372036854775807) (hdl : data.length ≤ 1000000000)
    (hk : ∀ m σ', MOk V N (6, i, at_, n, data) m → Hs σ' X (Tb t N (doM (6, i, at_, n, data) V m).2 :: R) → k (.tuple #[.int .i64 (doM (6, i, at_, n, data) V m).1.1, .int .i64 (doM (6, i, at_, n, data) V m).1.2.2]) σ') :
    kCall Tryd.prog 42 [pp t, .int .i64 i, .int .i64 at_, .string (bs data)] σ k := by
  obtain ⟨nb, sp, st, ns, hi, rfl, h1⟩ := Tb.open h
  have hu := used_vw hi
  have hfr : N - used (vwT ns st) = free st := by omega
  unfold MOk at hk
  rw [hfr] at hk
  simp only [doM] at hk
  refine iwrite_c hat hdl h1 hi.cap (fun hd => ?_) (fun d hd => ?_) (fun d hd h0 => ?_) (fun d hd h0 hne h4 => ?_) (fun d σ' hd h0 h4 hne hlk hf h2 => ?_) (fun d done l' st' σ' hd h0 h4 hw hful h2 => ?_)
  · rw [atV_none hd] at hk; exact hk 0 _ (fun d h => by simp at h) (Tb.close h1 hi)
  · have hn := hi.nd _ _ (nodeAt_some hd).2.2
    exact ⟨hn.pok, hn.s0, hn.s1⟩
  · rw [atV_some hd] at hk
    simp only [h0, if_true] at hk
    exact hk 0 _ (fun d _ _ h => by omega) (Tb.close h1 hi)
  · rw [atV_some hd] at hk
    have h3 : ¬ at_ < 0 := by omega
    have hp : 0 < data.length := List.length_pos_iff.2 hne
    have := hk 0 σ (fun e he _ _ => ⟨Nat.zero_le _, Fits.none _ _ _, .inr fun hf => by
      rcases hf.1 with h | h <;> omega⟩)
    simp only [h3, hne, h4, if_true, if_false] at this
    exact this (Tb.close h1 hi)
  · rw [atV_some hd] at hk
    have h3 : ¬ at_ < 0 := by omega
    have h4' : ¬ 4096 ≤ at_ := by omega
    have := hk 0 σ' (fun e he _ _ => ⟨Nat.zero_le _, Fits.none _ _ _, .inr fun hf' => by
      injection he with he
      subst he
      refine full_many (by simp [nvOf]) ?_ (by rw [hasW_zero, hf]; rfl) hf'
      rw [hasW_zero, Nat.add_zero]
      show ((List.range 64).map fun p : Nat => (d.parts.lookup (p : Int)).isSome)[at_.toNat / 64]? = some false
      rw [List.getElem?_map, List.getElem?_range (by omega), Option.map_some, hlk]
      rfl⟩)
    simp only [h3, hne, h4', if_true, if_false] at this
    exact this (Tb.close h2 hi)
  · rw [atV_some hd] at hk
    have h3 : ¬ at_ < 0 := by omega
    have hj := (nodeAt_some hd).2.2
    have hn := hi.nd _ _ hj
    have hlr : (data.take (4096 - at_.toNat)).length = min (4096 - at_.toNat) data.length := by simp
    have hkeys : Keys l' := by
      have hlt := (List.getElem?_eq_some_iff.1 hj).1
      have e1 : (ns.set (i - 1).toNat (some ⟨d.q, d.m, d.names, d.users, d.kind, if 0 < done then max d.size (at_ + done) else d.size, l'⟩))[(i - 1).toNat]? = some (some ⟨d.q, d.m, d.names, d.users, d.kind, if 0 < done then max d.size (at_ + done) else d.size, l'⟩) := by
        rw [List.getElem?_set_self hlt]
      have h5 := node_open h2 e1
      exact kvs_keys (Mp.keys h5.drop)
    have hz : ((at_.toNat : Nat) : Int) = at_ := by omega
    have hfin := hw.fin
    have hds : (if 0 < done then max d.size (at_ + done) else d.size) = if 0 < done then max d.size ((at_.toNat : Nat) + done) else d.size := by rw [hz]
    have hw1 := hi.write hj (d' := ⟨d.q, d.m, d.names, d.users, d.kind, if 0 < done then max d.size (at_ + done) else d.size, l'⟩) hw hkeys (by rw [hlr]; by_cases hx : done = 0 <;> omega) rfl hds
    have hhas := has_write hw
    have hd' : NdI st' (if 0 < done then max d.size ((at_.toNat : Nat) + done) else d.size) l' := hn.write hw hkeys (by rw [hlr]; by_cases hx : done = 0 <;> omega)
    have c1 := len_has hn
    have c2 := len_has hd'
    have hcnt : free st' + l'.length = free st + d.parts.length := by
      have := hw.grew.cnt
      omega
    have hmany : IsMany (nvOf st d).has (free st) at_.toNat data.length done := by
      refine ⟨by omega, ⟨?_, ?_⟩, ?_⟩
      · by_cases hx : done = 0
        · exact .inl hx
        · right; omega
      · show List.count true (hasW ((List.range 64).map fun p : Nat => (d.parts.lookup (p : Int)).isSome) at_.toNat done) ≤ List.count true ((List.range 64).map fun p : Nat => (d.parts.lookup (p : Int)).isSome) + free st
        rw [← hhas, c2, c1]; omega
      · by_cases hx : done = data.length
        · exact .inl hx
        right
        intro hf
        rcases hful with hf1 | ⟨hf1, hf2, hf3⟩
        · rcases hf.1 with h | h <;> omega
        · have hle : at_.toNat + (done + 1) ≤ 4096 := by rcases hf.1 with h | h <;> omega
          refine full_many (by simp [nvOf]) ?_ ?_ hf
          · show (hasW ((List.range 64).map fun p : Nat => (d.parts.lookup (p : Int)).isSome) at_.toNat done)[(at_.toNat + done) / 64]? = some false
            rw [← hhas, List.getElem?_map, List.getElem?_range (by omega), Option.map_some, hf2]
            rfl
          · show List.count true (hasW ((List.range 64).map fun p : Nat => (d.parts.lookup (p : Int)).isSome) at_.toNat done) = List.count true ((List.range 64).map fun p : Nat => (d.parts.lookup (p : Int)).isSome) + free st
            rw [← hhas, c2, c1]; omega
    have this := fun g => hk done σ' g
    replace this := this (by
      intro e he _ _
      have he := Option.some.inj he
      rw [← he]
      exact hmany)
    simp only [h3, if_false] at this
    by_cases hx : done = 0
    · subst hx
      have hde : data = [] := by
        rcases hful with hf1 | ⟨hf1, _⟩
        · rcases h4 with h4 | h4
          · exact h4
          · apply List.eq_nil_of_length_eq_zero; omega
        · omega
      simp only [hde, if_true] at this
      refine this (Tb.close' h2 hw1.1 ?_)
      rw [vw_set hw1.2]
      have e0 : nvOf st' ⟨d.q, d.m, d.names, d.users, d.kind, if 0 < 0 then max d.size (at_ + (0 : Nat)) else d.size, l'⟩ = nvOf st d := by
        unfold nvOf
        simp only [Nat.lt_irrefl, if_false]
        rw [cont_same hw, hhas, hasW_zero]
      rw [Option.map_some, e0]
      show (vwT ns st).set (i - 1).toNat (some (nvOf st d)) = vwT ns st
      apply List.ext_getElem?
      intro x
      rw [List.getElem?_set]
      split
      · rename_i hx
        subst hx
        rw [vw_len, if_pos (List.getElem?_eq_some_iff.1 hj).1, vw_get, hj]; rfl
      · rfl
    · simp only [hx, if_false] at this
      refine this (Tb.close' h2 hw1.1 ?_)
      rw [vw_set hw1.2, Option.map_some]
      have hx' : 0 < done := by omega
      have e0 : nvOf st' ⟨d.q, d.m, d.names, d.users, d.kind, if 0 < done then max d.size (at_ + done) else d.size, l'⟩ = ⟨d.kind, d.names, d.users, dataW (nvOf st d).data at_.toNat done data, hasW (nvOf st d).has at_.toNat done⟩ := by
        unfold nvOf
        simp only [NV.mk.injEq, true_and]
        refine ⟨?_, hhas⟩
        rw [if_pos hx', ← hz, cont_write hn hw hx']
        unfold dataW
        rw [if_neg hx, cont_len, List.take_take, show min done (4096 - at_.toNat) = done from by omega]
        simp only [Int.toNat_natCast]
      rw [e0]
      rfl
end
end Go.Proofs.YtmlceloabmkjmaaDoor
