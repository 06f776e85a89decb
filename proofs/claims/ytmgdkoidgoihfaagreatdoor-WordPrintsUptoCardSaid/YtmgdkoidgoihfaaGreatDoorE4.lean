/- That the translation of an operation is sound, part 2. Conditions: none. -/
import Derived.Test.YtmgdkoidgoihfaaGreatDoorE3
namespace Go.Proofs.YtmgdkoidgoihfaaGreatDoor.E
open Go.RowKit

section
variable {P : Program} {N : Nat} {ρ : Env} {w : World} {k : Value → World → Prop}

theorem goes_value {s : Sem Value} (h : ∃ v w', s.run P w = .ok v w' ∧ k v w') : Goes P w k ((do pure (.value (← s)) : Sem Next).run P w) := by
  obtain ⟨v, w', h, hk⟩ := h
  simp only [Sem.run_bind, h, Result.andThen_ok, Sem.run_pure]
  exact hk
theorem goes_unit {s : Sem Unit} (h : ∃ w', s.run P w = .ok () w' ∧ k undef w') : Goes P w k ((do s; pure .skip : Sem Next).run P w) := by
  obtain ⟨w', h, hk⟩ := h
  simp only [Sem.run_bind, h, Result.andThen_ok, Sem.run_pure]
  exact hk

theorem un_run {op : UnOp} {x v : Value} (h : unV op x = some v) : (Op.unary op x).run P w = .ok v w := by
  unfold unV at h
  split at h <;> first | (cases h; done) | (injection h with h; subst h; rfl)

theorem load_ok {t : TypeId} {a : Arg} (h : vcI P (trLoad P t a) ρ w k) : ∃ v w', (Instr.loadAt t (a.ev ρ)).run P w = .ok v w' ∧ k v w' := by
  unfold trLoad at h
  split at h
  · rename_i d hd
    split at h
    · rename_i hag
      split at h
      · rename_i n hn
        obtain ⟨v, hv, hk⟩ := seqO_ex h
        refine ⟨v, w, ?_, hk⟩
        unfold ldNV at hv
        split at hv
        · rename_i ad had
          rw [Option.map_eq_some_iff] at hv
          obtain ⟨l, hl, rfl⟩ := hv
          have h1 := lds_run (P := P) ad n 0 l #[] hl
          simp only [had, Instr.loadAt, Instr.sureAddr, Sem.run_bind, Sem.run_pure, Result.andThen_ok, loadVar, isAgg_run hd, hag, if_true, szOf_run hn, loadCells, h1]
          simp
        · cases hv
      · exact h.elim
    · rename_i hag
      obtain ⟨v, hv, hk⟩ := seqO_ex h
      refine ⟨v, w, ?_, hk⟩
      unfold ldV at hv
      split at hv
      · rename_i ad had
        simp only [had, Instr.loadAt, Instr.sureAddr, Sem.run_bind, Sem.run_pure, Result.andThen_ok, loadVar, isAgg_run hd, hag, if_false, Bool.false_eq_true]
        simp [load, Sem.run, hv]
      · cases hv
  · exact h.elim

theorem store_ok {t : TypeId} {n : Nat} {a b : Arg} (hs : szOf P t = some n) (h : vcI P (.store n a b) ρ w k) : ∃ w', (Instr.storeAt t (a.ev ρ) (b.ev ρ)).run P w = .ok () w' ∧ k undef w' := by
  obtain ⟨w', hw, hk⟩ := seqO_ex h
  refine ⟨w', ?_, hk⟩
  unfold stV at hw
  split at hw
  · rename_i ad had
    have := storeVar_ok (P := P) (w := w) (a := ad) (v := b.ev ρ) (w' := w') hs hw
    simp only [had, Instr.storeAt, Instr.sureAddr, Sem.run_bind, Sem.run_pure, Result.andThen_ok, this]
  · cases hw

theorem fieldPlace_run {fd : Field} {n : Nat} (hn : szOf P fd.type = some (n + 1)) (ad : Addr) : (fieldPlace ad fd).run P w = .ok (ad.add fd.offset) w := by
  simp only [fieldPlace, Sem.run_bind, szOf_run hn, Result.andThen_ok]
  simp

theorem fOf_some {s : TypeId} {f : Nat} {fd : Field} (h : fOf P s f = some fd) : ∃ fs, P.underlying s = some (.struct fs) ∧ fs[f]? = some fd := by
  unfold fOf at h
  split at h
  · rename_i fs hfs; exact ⟨fs, hfs, h⟩
  · cases h

theorem fld_ok {s : TypeId} {f n : Nat} {fd : Field} {x v : Value} (hf : fOf P s f = some fd) (hn : szOf P fd.type = some (n + 1)) (h : fldV fd.offset x = some v) : (Instr.fieldAt s x f).run P w = .ok v w := by
  obtain ⟨fs, h1, h2⟩ := fOf_some hf
  unfold fldV at h
  split at h
  · injection h with h; subst h
    simp [Instr.fieldAt, run_underlying h1, h2, Instr.sureAddr, fieldPlace_run hn]
  · cases h

theorem part1_run {t : TypeId} {d : TypeDesc} {cs : Array Value} {off : Nat} {v : Value} (hd : P.underlying t = some d) (hag : isAggB d = false) (h : cs.toList[off]? = some v) : (part t cs off).run P w = .ok v w := by
  have h' : cs[off]? = some v := by simpa using h
  simp only [part, Sem.run_bind, isAgg_run hd, Result.andThen_ok, hag, h']
  rfl
theorem partN_run {t : TypeId} {d : TypeDesc} {cs : Array Value} {off n : Nat} (hd : P.underlying t = some d) (hag : isAggB d = true) (hn : szOf P t = some n) : (part t cs off).run P w = .ok (.agg ((cs.toList.drop off).take n).toArray) w := by
  simp only [part, Sem.run_bind, isAgg_run hd, Result.andThen_ok, hag, if_true, szOf_run hn]
  have e : cs.extract off (off + n) = ((cs.toList.drop off).take n).toArray := by
    rw [← Array.toList_inj]
    simp [Array.toList_extract, List.extract_eq_take_drop]
  simp only [Sem.run_pure, e]

theorem idx_ok {t e : TypeId} {n : Nat} {x i v : Value} (ht : P.underlying t = some (.slice e)) (hn : szOf P e = some n) (h : idxV n x i = some v) : (Instr.indexAt t x i).run P w = .ok v w := by
  unfold idxV at h
  split at h
  · split at h
    · rename_i hc
      injection h with h; subst h
      simp [Instr.indexAt, asIntOf, run_underlying ht, szOf_run hn, hc]
    · cases h
  · cases h
theorem idxA_ok {t e : TypeId} {len n : Nat} {x i v : Value} (ht : P.underlying t = some (.array len e)) (hn : szOf P e = some n) (h : idxAV len n x i = some v) : (Instr.indexAt t x i).run P w = .ok v w := by
  unfold idxAV at h
  split at h
  · split at h
    · rename_i hc
      injection h with h; subst h
      simp [Instr.indexAt, asIntOf, run_underlying ht, szOf_run hn, hc, Instr.sureAddr]
    · cases h
  · cases h
theorem ixS_ok {t : TypeId} {x i v : Value} (ht : P.underlying t = some .string) (h : ixSV x i = some v) : (Instr.index t x i).run P w = .ok v w := by
  unfold ixSV at h
  split at h
  · rename_i s kk i
    unfold strAt at h
    split at h
    · rename_i hc
      rw [Option.map_eq_some_iff] at h
      obtain ⟨b, hb, rfl⟩ := h
      have hb' : s[i.toNat]? = some b := by
        have := List.getElem?_eq_some_iff.1 hb
        obtain ⟨h1, h2⟩ := this
        have h3 : i.toNat < s.size := by
          show i.toNat < s.data.size
          simpa using h1
        rw [getElem?_pos s i.toNat h3]
        congr 1
      simp [Instr.index, asIntOf, run_underlying ht, hc, hb']
    · cases h
  · cases h

theorem bound_run {x : Value} {y d : Nat} {i : Int} {code : BoundsCode} (h : bndV d (some x) = some i) (hi : 0 ≤ i ∧ i ≤ y) : (Instr.sliceBound x y code).run P w = .ok i.toNat w := by
  cases x <;> simp [bndV] at h
  subst h
  simp [Instr.sliceBound, asIntOf, hi]
theorem bounds_run {isS : Bool} {n c : Nat} {lo hi : Option Value} {a b : Int} (h1 : bndV 0 lo = some a) (h2 : bndV n hi = some b) (hc : 0 ≤ a ∧ a ≤ b ∧ b ≤ c) :
    (Instr.sliceBounds isS n c lo hi none).run P w = .ok (a.toNat, b.toNat, c) w := by
  unfold Instr.sliceBounds
  cases hi with
  | none =>
    have hb : b = n := by simpa [bndV] using h2.symm
    subst hb
    cases lo with
    | none =>
      have ha : a = 0 := by simpa [bndV] using h1.symm
      subst ha
      simp
    | some x =>
      have := bound_run (P := P) (w := w) (code := .sliceB) (y := n) h1 ⟨hc.1, hc.2.1⟩
      simp [this]
  | some y =>
    have hb := fun code => bound_run (P := P) (w := w) (code := code) (y := c) h2 ⟨by omega, hc.2.2⟩
    cases lo with
    | none =>
      have ha : a = 0 := by simpa [bndV] using h1.symm
      subst ha
      simp [hb]
    | some x =>
      have := bound_run (P := P) (w := w) (code := .sliceB) (y := b.toNat) h1 ⟨hc.1, by omega⟩
      simp [hb, this]

theorem cut_run {sz : Nat} {a : Option Addr} {c : Nat} {lo hi : Int} {v : Value} (h : cutV sz a c lo hi = some v) :
    0 ≤ lo ∧ lo ≤ hi ∧ hi ≤ c ∧ v = .slice (if c = lo.toNat then a else a.map (·.add (lo.toNat * sz))) (hi.toNat - lo.toNat) (c - lo.toNat) := by
  unfold cutV at h
  split at h
  · rename_i hc
    injection h with h
    exact ⟨hc.1, hc.2.1, hc.2.2, h.symm⟩
  · cases h
theorem slice_ok {t : TypeId} {x : Arg} {lo hi : Option Arg} (h : vcI P (trSlice P t x lo hi) ρ w k) :
    ∃ v w', (Instr.sliceAt t (x.ev ρ) (lo.map (Arg.ev ρ)) (hi.map (Arg.ev ρ)) none).run P w = .ok v w' ∧ k v w' := by
  unfold trSlice at h
  split at h
  · rename_i hu
    obtain ⟨v, hv, hk⟩ := seqO_ex h
    refine ⟨v, w, ?_, hk⟩
    unfold subSV at hv
    split at hv
    · rename_i s hx
      simp only [Option.bind_eq_some_iff] at hv
      obtain ⟨a, ha, b, hb, hv⟩ := hv
      unfold subV at hv
      split at hv
      · rename_i hc
        injection hv with hv; subst hv
        have hl : s.data.toList.length = s.size := by simp [ByteArray.size_data]
        have hbr := bounds_run (P := P) (w := w) (isS := false) (c := s.size) ha hb ⟨hc.1, hc.2.1, by omega⟩
        simp only [Instr.sliceAt, Instr.slice, Sem.run_bind, run_underlying hu, Result.andThen_ok, hx]
        have e : bs ((s.data.toList.drop a.toNat).take (b.toNat - a.toNat)) = s.extract a.toNat b.toNat := by
          apply ByteArray.ext
          simp [bs, ByteArray.data_extract, ← Array.toList_inj, Array.toList_extract, List.extract_eq_take_drop]
        simp [e, hbr]
      · cases hv
    · cases hv
  · rename_i e hu
    split at h
    · rename_i n hn
      obtain ⟨v, hv, hk⟩ := seqO_ex h
      refine ⟨v, w, ?_, hk⟩
      unfold subLV at hv
      split at hv
      · rename_i a m c hx
        simp only [Option.bind_eq_some_iff] at hv
        obtain ⟨p, hp, q, hq, hv⟩ := hv
        obtain ⟨c1, c2, c3, rfl⟩ := cut_run hv
        have hbr := bounds_run (P := P) (w := w) (isS := true) (c := c) hp hq ⟨c1, c2, c3⟩
        simp only [Instr.sliceAt, Instr.slice, Sem.run_bind, run_underlying hu, Result.andThen_ok, hx, hbr, szOf_run hn]
        rfl
      · cases hv
    · exact h.elim
  · rename_i len e hu
    split at h
    · rename_i n hn
      obtain ⟨v, hv, hk⟩ := seqO_ex h
      refine ⟨v, w, ?_, hk⟩
      unfold subAV at hv
      split at hv
      · rename_i a hx
        simp only [Option.bind_eq_some_iff] at hv
        obtain ⟨p, hp, q, hq, hv⟩ := hv
        obtain ⟨c1, c2, c3, rfl⟩ := cut_run hv
        have hbr := bounds_run (P := P) (w := w) (isS := false) (c := len) hp hq ⟨c1, c2, c3⟩
        simp only [Instr.sliceAt, Sem.run_bind, run_underlying hu, Result.andThen_ok, hx, hbr, szOf_run hn, Instr.sureAddr, Sem.run_pure]
        simp only [Option.map_some]
        by_cases hl : len = p.toNat <;> simp [hl]
      · cases hv
    · exact h.elim
  · exact h.elim
end
end Go.Proofs.YtmgdkoidgoihfaaGreatDoor.E
