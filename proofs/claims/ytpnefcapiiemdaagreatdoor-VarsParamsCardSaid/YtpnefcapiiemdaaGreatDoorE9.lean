/- That the translation of an operation is sound, part 2. Conditions: none. -/
import Derived.Test.YtpnefcapiiemdaaGreatDoorE3
import Derived.Orders
import Derived.Sort.LoopGhostIn
import Derived.Scope
import Derived.DefersIn
namespace Go.Proofs.YtpnefcapiiemdaaGreatDoor.E
open Go.RowKit

section
variable {P : Program} {N : Nat} {ρ : Env} {w : World} {k : Value → World → Prop}

theorem goes_value {s : Sem Value} (h : ∃ v w', s.run P w = .ok v w' ∧ k v w') : Goes P w k ((do pure (.value (← s)) : Sem Next).run P w) := by
  obtain ⟨v, w', h, hk⟩ := h
  simp only [Sem.run_bind, h, Result.andThen_ok, Sem.run_pure]
  exact hk
theorem goes_unit {s : Sem Unit} (h : ∃ w', s.run P w = .ok () w' ∧ k undef w') : Goes P w k ((do s; pure .skip : Sem Next).run P w) := by
  obtain ⟨w', h, hk⟩ := h
  simp only [Sem.run_bind, h, Result.andThen_ok, Sem.run_pure]
  exact hk

theorem un_run {op : UnOp} {x v : Value} (h : unV op x = some v) : (Op.unary op x).run P w = .ok v w := by
  unfold unV at h
  split at h <;> first | (cases h; done) | (injection h with h; subst h; rfl)

theorem load_ok {t : TypeId} {a : Arg} (h : vcI P (trLoad P t a) ρ w k) : ∃ v w', (Instr.loadAt t (a.ev ρ)).run P w = .ok v w' ∧ k v w' := by
  unfold trLoad at h
  split at h
  · rename_i d hd
    split at h
    · rename_i hag
      split at h
      · rename_i n hn
        obtain ⟨v, hv, hk⟩ := seqO_ex h
        refine ⟨v, w, ?_, hk⟩
        unfold ldNV at hv
        split at hv
        · rename_i ad had
          rw [Option.map_eq_some_iff] at hv
          obtain ⟨l, hl, rfl⟩ := hv
          have h1 := lds_run (P := P) ad n 0 l #[] hl
          simp only [had, Instr.loadAt, Instr.sureAddr, Sem.run_bind, Sem.run_pure, Result.andThen_ok, loadVar, isAgg_run hd, hag, if_true, szOf_run hn, loadCells, h1]
          simp
        · cases hv
      · exact h.elim
    · rename_i hag
      obtain ⟨v, hv, hk⟩ := seqO_ex h
      refine ⟨v, w, ?_, hk⟩
      unfold ldV at hv
      split at hv
      · rename_i ad had
        simp only [had, Instr.loadAt, Instr.sureAddr, Sem.run_bind, Sem.run_pure, Result.andThen_ok, loadVar, isAgg_run hd, hag, if_false, Bool.false_eq_true]
        simp [load, Sem.run, hv]
      · cases hv
  · exact h.elim

theorem store_ok {t : TypeId} {n : Nat} {a b : Arg} (hs : szOf P t = some n) (h : vcI P (.store n a b) ρ w k) : ∃ w', (Instr.storeAt t (a.ev ρ) (b.ev ρ)).run P w = .ok () w' ∧ k undef w' := by
  obtain ⟨w', hw, hk⟩ := seqO_ex h
  refine ⟨w', ?_, hk⟩
  unfold stV at hw
  split at hw
  · rename_i ad had
    have := storeVar_ok (P := P) (w := w) (a := ad) (v := b.ev ρ) (w' := w') hs hw
    simp only [had, Instr.storeAt, Instr.sureAddr, Sem.run_bind, Sem.run_pure, Result.andThen_ok, this]
  · cases hw

theorem fieldPlace_run {fd : Field} {n : Nat} (hn : szOf P fd.type = some (n + 1)) (ad : Addr) : (fieldPlace ad fd).run P w = .ok (ad.add fd.offset) w := by
  simp only [fieldPlace, Sem.run_bind, szOf_run hn, Result.andThen_ok]
  simp

theorem fOf_some {s : TypeId} {f : Nat} {fd : Field} (h : fOf P s f = some fd) : ∃ fs, P.underlying s = some (.struct fs) ∧ fs[f]? = some fd := by
  unfold fOf at h
  split at h
  · rename_i fs hfs; exact ⟨fs, hfs, h⟩
  · cases h

theorem fld_ok {s : TypeId} {f n : Nat} {fd : Field} {x v : Value} (hf : fOf P s f = some fd) (hn : szOf P fd.type = some (n + 1)) (h : fldV fd.offset x = some v) : (Instr.fieldAt s x f).run P w = .ok v w := by
  obtain ⟨fs, h1, h2⟩ := fOf_some hf
  unfold fldV at h
  split at h
  · injection h with h; subst h
    simp [Instr.fieldAt, run_underlying h1, h2, Instr.sureAddr, fieldPlace_run hn]
  · cases h

theorem part1_run {t : TypeId} {d : TypeDesc} {cs : Array Value} {off : Nat} {v : Value} (hd : P.underlying t = some d) (hag : isAggB d = false) (h : cs.toList[off]? = some v) : (part t cs off).run P w = .ok v w := by
  have h' : cs[off]? = some v := by simpa using h
  simp only [part, Sem.run_bind, isAgg_run hd, Result.andThen_ok, hag, h']
  rfl
theorem partN_run {t : TypeId} {d : TypeDesc} {cs : Array Value} {off n : Nat} (hd : P.underlying t = some d) (hag : isAggB d = true) (hn : szOf P t = some n) : (part t cs off).run P w = .ok (.agg ((cs.toList.drop off).take n).toArray) w := by
  simp only [part, Sem.run_bind, isAgg_run hd, Result.andThen_ok, hag, if_true, szOf_run hn]
  have e : cs.extract off (off + n) = ((cs.toList.drop off).take n).toArray := by
    rw [← Array.toList_inj]
    simp [Array.toList_extract, List.extract_eq_take_drop]
  simp only [Sem.run_pure, e]

theorem idx_ok {t e : TypeId} {n : Nat} {x i v : Value} (ht : P.underlying t = some (.slice e)) (hn : szOf P e = some n) (h : idxV n x i = some v) : (Instr.indexAt t x i).run P w = .ok v w := by
  unfold idxV at h
  split at h
  · split at h
    · rename_i hc
      injection h with h; subst h
      simp [Instr.indexAt, asIntOf, run_underlying ht, szOf_run hn, hc]
    · cases h
  · cases h
theorem idxA_ok {t e : TypeId} {len n : Nat} {x i v : Value} (ht : P.underlying t = some (.array len e)) (hn : szOf P e = some n) (h : idxAV len n x i = some v) : (Instr.indexAt t x i).run P w = .ok v w := by
  unfold idxAV at h
  split at h
  · split at h
    · rename_i hc
      injection h with h; subst h
      simp [Instr.indexAt, asIntOf, run_underlying ht, szOf_run hn, hc, Instr.sureAddr]
    · cases h
  · cases h
theorem ixS_ok {t : TypeId} {x i v : Value} (ht : P.underlying t = some .string) (h : ixSV x i = some v) : (Instr.index t x i).run P w = .ok v w := by
  unfold ixSV at h
  split at h
  · rename_i s kk i
    unfold strAt at h
    split at h
    · rename_i hc
      rw [Option.map_eq_some_iff] at h
      obtain ⟨b, hb, rfl⟩ := h
      have hb' : s[i.toNat]? = some b := by
        have := List.getElem?_eq_some_iff.1 hb
        obtain ⟨h1, h2⟩ := this
        have h3 : i.toNat < s.size := by
          show i.toNat < s.data.size
          simpa using h1
        rw [getElem?_pos s i.toNat h3]
        congr 1
      simp [Instr.index, asIntOf, run_underlying ht, hc, hb']
    · cases h
  · cases h

theorem bound_run {x : Value} {y d : Nat} {i : Int} {code : BoundsCode} (h : bndV d (some x) = some i) (hi : 0 ≤ i ∧ i ≤ y) : (Instr.sliceBound x y code).run P w = .ok i.toNat w := by
  cases x <;> simp [bndV] at h
  subst h
  simp [Instr.sliceBound, asIntOf, hi]
theorem bounds_run {isS : Bool} {n c : Nat} {lo hi : Option Value} {a b : Int} (h1 : bndV 0 lo = some a) (h2 : bndV n hi = some b) (hc : 0 ≤ a ∧ a ≤ b ∧ b ≤ c) :
    (Instr.sliceBounds isS n c lo hi none).run P w = .ok (a.toNat, b.toNat, c) w := by
  unfold Instr.sliceBounds
  cases hi with
  | none =>
    have hb : b = n := by simpa [bndV] using h2.symm
    subst hb
    cases lo with
    | none =>
      have ha : a = 0 := by simpa [bndV] using h1.symm
      subst ha
      simp
    | some x =>
      have := bound_run (P := P) (w := w) (code := .sliceB) (y := n) h1 ⟨hc.1, hc.2.1⟩
      simp [this]
  | some y =>
    have hb := fun code => bound_run (P := P) (w := w) (code := code) (y := c) h2 ⟨by omega, hc.2.2⟩
    cases lo with
    | none =>
      have ha : a = 0 := by simpa [bndV] using h1.symm
      subst ha
      simp [hb]
    | some x =>
      have := bound_run (P := P) (w := w) (code := .sliceB) (y := b.toNat) h1 ⟨hc.1, by omega⟩
      simp [hb, this]

theorem cut_run {sz : Nat} {a : Option Addr} {c : Nat} {lo hi : Int} {v : Value} (h : cutV sz a c lo hi = some v) :
    0 ≤ lo ∧ lo ≤ hi ∧ hi ≤ c ∧ v = .slice (if c = lo.toNat then a else a.map (·.add (lo.toNat * sz))) (hi.toNat - lo.toNat) (c - lo.toNat) := by
  unfold cutV at h
  split at h
  · rename_i hc
    injection h with h
    exact ⟨hc.1, hc.2.1, hc.2.2, h.symm⟩
  · cases h
theorem slice_ok {t : TypeId} {x : Arg} {lo hi : Option Arg} (h : vcI P (trSlice P t x lo hi) ρ w k) :
    ∃ v w', (Instr.sliceAt t (x.ev ρ) (lo.map (Arg.ev ρ)) (hi.map (Arg.ev ρ)) none).run P w = .ok v w' ∧ k v w' := by
  unfold trSlice at h
  split at h
  · rename_i hu
    obtain ⟨v, hv, hk⟩ := seqO_ex h
    refine ⟨v, w, ?_, hk⟩
    unfold subSV at hv
    split at hv
    · rename_i s hx
      simp only [Option.bind_eq_some_iff] at hv
      obtain ⟨a, ha, b, hb, hv⟩ := hv
      unfold subV at hv
      split at hv
      · rename_i hc
        injection hv with hv; subst hv
        have hl : s.data.toList.length = s.size := by simp [ByteArray.size_data]
        have hbr := bounds_run (P := P) (w := w) (isS := false) (c := s.size) ha hb ⟨hc.1, hc.2.1, by omega⟩
        simp only [Instr.sliceAt, Instr.slice, Sem.run_bind, run_underlying hu, Result.andThen_ok, hx]
        have e : bs ((s.data.toList.drop a.toNat).take (b.toNat - a.toNat)) = s.extract a.toNat b.toNat := by
          apply ByteArray.ext
          simp [bs, ByteArray.data_extract, ← Array.toList_inj, Array.toList_extract, List.extract_eq_take_drop]
        simp [e, hbr]
      · cases hv
    · cases hv
  · rename_i e hu
    split at h
    · rename_i n hn
      obtain ⟨v, hv, hk⟩ := seqO_ex h
      refine ⟨v, w, ?_, hk⟩
      unfold subLV at hv
      split at hv
      · rename_i a m c hx
        simp only [Option.bind_eq_some_iff] at hv
        obtain ⟨p, hp, q, hq, hv⟩ := hv
        obtain ⟨c1, c2, c3, rfl⟩ := cut_run hv
        have hbr := bounds_run (P := P) (w := w) (isS := true) (c := c) hp hq ⟨c1, c2, c3⟩
        simp only [Instr.sliceAt, Instr.slice, Sem.run_bind, run_underlying hu, Result.andThen_ok, hx, hbr, szOf_run hn]
        rfl
      · cases hv
    · exact h.elim
  · rename_i len e hu
    split at h
    · rename_i n hn
      obtain ⟨v, hv, hk⟩ := seqO_ex h
      refine ⟨v, w, ?_, hk⟩
      unfold subAV at hv
      split at hv
      · rename_i a hx
        simp only [Option.bind_eq_some_iff] at hv
        obtain ⟨p, hp, q, hq, hv⟩ := hv
        obtain ⟨c1, c2, c3, rfl⟩ := cut_run hv
        have hbr := bounds_run (P := P) (w := w) (isS := false) (c := len) hp hq ⟨c1, c2, c3⟩
        simp only [Instr.sliceAt, Sem.run_bind, run_underlying hu, Result.andThen_ok, hx, hbr, szOf_run hn, Instr.sureAddr, Sem.run_pure]
        simp only [Option.map_some]
        by_cases hl : len = p.toNat <;> simp [hl]
      · cases hv
    · exact h.elim
  · exact h.elim
end
end Go.Proofs.YtpnefcapiiemdaaGreatDoor.E

/- That the translation of an operation is sound, part 3. Conditions: none. -/
namespace Go.Proofs.YtpnefcapiiemdaaGreatDoor.E
open Go.RowKit

section
variable {P : Program} {N : Nat} {ρ : Env} {w : World} {k : Value → World → Prop}

theorem lds_len {w : World} {a : Addr} : ∀ {n i : Nat} {l : List Value}, ldsV w a i n = some l → l.length = n
  | 0, i, l, h => by injection h with h; subst h; rfl
  | n + 1, i, l, h => by
    simp only [ldsV, Option.bind_eq_some_iff, Option.map_eq_some_iff] at h
    obtain ⟨v, hv, r, hr, rfl⟩ := h
    simp [lds_len hr]

def bstep (c : Value) (s : ByteArray) : Sem (ForInStep ByteArray) :=
  match c with
  | .int .u8 n => pure (ForInStep.yield (s.push (UInt8.ofNat n.toNat)))
  | _ => do
    stuck "bytesToString: byte expected"
    pure (ForInStep.yield s)
theorem forIn_bytes (l : List UInt8) : ∀ (acc : ByteArray), (forIn (m := Sem) (l.map fun b => (Value.int .u8 b.toNat)) acc bstep).run P w = .ok (l.foldl (fun s b => s.push b) acc) w := by
  induction l with
  | nil => intro acc; simp
  | cons b r ih =>
    intro acc
    have hb : UInt8.ofNat ((b.toNat : Int)).toNat = b := by simp
    simp only [List.map_cons, List.forIn_cons, Sem.run_bind, bstep, Sem.run_pure, Result.andThen_ok, List.foldl_cons, hb]
    exact ih (acc.push b)
theorem foldl_push (l : List UInt8) : ∀ (acc : ByteArray), l.foldl (fun s b => s.push b) acc = acc ++ bs l := by
  induction l with
  | nil => intro acc; apply ByteArray.ext; simp [bs]
  | cons b r ih =>
    intro acc
    rw [List.foldl_cons, ih]
    apply ByteArray.ext
    simp [bs, ByteArray.push]

theorem conv_ok {s d : TypeId} {x : Arg} (h : vcI P (trConv P s d x) ρ w k) : ∃ v w', (convert s d (x.ev ρ)).run P w = .ok v w' ∧ k v w' := by
  unfold trConv at h
  split at h
  · rename_i hs hd
    obtain ⟨v, hv, hk⟩ := seqO_ex h
    refine ⟨v, w, ?_, hk⟩
    unfold cviV at hv
    split at hv <;> first | (cases hv; done) | skip
    rename_i hx
    injection hv with hv; subst hv
    simp only [convert, Sem.run_bind, run_underlying hs, run_underlying hd, Result.andThen_ok, hx]
    rfl
  · rename_i hs hd
    obtain ⟨v, hv, hk⟩ := seqO_ex h
    refine ⟨v, w, ?_, hk⟩
    unfold cssV at hv
    split at hv <;> first | (cases hv; done) | skip
    rename_i hx
    injection hv with hv; subst hv
    simp only [convert, Sem.run_bind, run_underlying hs, run_underlying hd, Result.andThen_ok, hx]
    rfl
  · rename_i e hs hd
    split at h
    · rename_i he
      replace h : cvBSP w (x.ev ρ) (fun v => k v w) := h
      unfold cvBSP at h
      split at h
      · rename_i hx
        refine ⟨_, w, ?_, h⟩
        simp only [convert, Sem.run_bind, run_underlying hs, run_underlying hd, run_underlying he, Result.andThen_ok, hx, Conv.bytesToString]
        rfl
      · rename_i a n c hx
        obtain ⟨l, hl, hlds, hk⟩ := h
        refine ⟨_, w, ?_, hk⟩
        have hld : (loadCells a n).run P w = .ok (l.map fun b => Value.int .u8 b.toNat).toArray w := by
          have := lds_run (P := P) a n 0 _ #[] hlds
          simpa [loadCells] using this
        simp only [convert, Sem.run_bind, run_underlying hs, run_underlying hd, run_underlying he, Result.andThen_ok, hx, Conv.bytesToString, hld]
        rw [List.forIn_toArray]
        have hf := forIn_bytes (P := P) (w := w) l ByteArray.empty
        rw [foldl_push] at hf
        have e : ByteArray.empty ++ bs l = bs l := by apply ByteArray.ext; simp [bs]
        rw [e] at hf
        exact congrArg (fun (r : Result ByteArray) => r.andThen fun a w' => Sem.run P (pure (Value.string a)) w') hf
      · exact h.elim
    · exact h.elim
  · exact h.elim

theorem zOf_run {t : TypeId} {z : List Value} (h : zOf P t = some z) : ∃ v, v.cells.toList = z ∧ ∀ w, (zeroValue t).run P w = .ok v w := by
  unfold zOf at h
  simp only [Option.bind_eq_some_iff, Option.map_eq_some_iff] at h
  obtain ⟨i, hi, v, hv, rfl⟩ := h
  exact ⟨v, rfl, fun w => by simp [zeroValue, typeInfo, hi, hv]⟩
theorem new_eq (w : World) (v : Value) (l : List Value) (t : TypeId) (h : v.cells.toList = l) : w.alloc (.cells v.cells t) = new w l t := by
  subst h
  unfold new
  rw [Array.toArray_toList]
theorem alloc_ok {t : TypeId} {z : List Value} (h : zOf P t = some z) : (Instr.alloc t true (.tuple #[])).run P w = .ok (.pointer (some ⟨size w, 0, none⟩)) (new w z t) := by
  obtain ⟨v, hv, hr⟩ := zOf_run h
  rw [← new_eq w v z t hv]
  simp only [Instr.alloc, Sem.run_bind, hr w, Result.andThen_ok]
  rfl
theorem box_ok {t : TypeId} {v : Value} : (Instr.box t v).run P w = .ok (.pointer (some ⟨size w, 0, none⟩)) (new w (cellsV v) t) := by
  rw [← new_eq w v _ t (cells_eq v)]
  rfl

/-- fill is lay. -/
theorem foldl_set (vs : List Value) : ∀ (cells : Array Value) (off j : Nat), off + j + vs.length ≤ cells.size →
    ((vs.zipIdx j).foldl (fun cs (x : Value × Nat) => cs.setIfInBounds (off + x.2) x.1) cells).toList = cells.toList.take (off + j) ++ vs ++ cells.toList.drop (off + j + vs.length) := by
  induction vs with
  | nil => intro cells off j _; simp
  | cons v r ih =>
    intro cells off j h
    simp only [List.zipIdx_cons, List.foldl_cons]
    simp only [List.length_cons] at h
    rw [ih _ off (j + 1) (by simp; omega)]
    have h1 := list_seg_step cells.toList (off + j) v r (by simp; omega)
    simpa [Array.toList_setIfInBounds, Nat.add_assoc] using h1
theorem fill_ok (place : Nat → Option (Nat × Nat)) : ∀ (ps : List (Nat × Operand)) (l : List (Nat × Nat × Arg)) (z : Array Value) (r : List Value),
    plA P N place ps = some l → lay z.toList (layA ρ l) = some r → Instr.fill place z (ps.map fun p => (p.1, (act N ρ).eval p.2)) = some r.toArray
  | [], l, z, r, h, hr => by
    injection h with h; subst h
    simp only [layA, List.map_nil, lay] at hr
    injection hr with hr; subst hr
    simp [Instr.fill]
  | (i, x) :: ps, l, z, r, h, hr => by
    simp only [plA, Option.bind_eq_some_iff, Option.map_eq_some_iff] at h
    obtain ⟨a, ha, ⟨off, n⟩, hp, l', hl', rfl⟩ := h
    simp only [layA, List.map_cons, lay] at hr
    split at hr
    · rename_i hc
      obtain ⟨c1, c2⟩ := hc
      have hsz : ((act N ρ).eval x).cells.size = n := by rw [trA_ev ha, ← Array.length_toList, cells_eq]; exact c1
      have hlen : z.toList.length = z.size := by simp
      simp only [Instr.fill, List.map_cons, hp]
      rw [if_neg (by simp [hsz]; omega)]
      have hf := foldl_set (cellsV (a.ev ρ)) z off 0 (by simp only [Nat.add_zero, c1]; omega)
      simp only [Nat.add_zero, c1] at hf
      refine fill_ok place ps l' _ r hl' ?_
      have e : (((act N ρ).eval x).cells.zipIdx.foldl (fun cs (x : Value × Nat) => cs.setIfInBounds (off + x.2) x.1) z).toList = z.toList.take off ++ cellsV (a.ev ρ) ++ z.toList.drop (off + n) := by
        rw [← hf, trA_ev ha, ← Array.foldl_toList, Array.toList_zipIdx, cells_eq]
      rw [e]
      exact hr
    · cases hr
end
end Go.Proofs.YtpnefcapiiemdaaGreatDoor.E

/- That the translation of an operation is sound, part 4. Conditions: none. -/
namespace Go.Proofs.YtpnefcapiiemdaaGreatDoor.E
open Go.RowKit

section
variable {P : Program} {N : Nat} {ρ : Env} {w : World} {k : Value → World → Prop}

theorem mapM_places (fs : Array Field) (hall : fs.all (fun f => (szOf P f.type).isSome) = true) :
    (fs.mapM (m := Sem) fun f => do pure (f.offset, ← sizeOf f.type)).run P w = .ok (fs.map fun f => (f.offset, (szOf P f.type).getD 0)) w := by
  obtain ⟨l⟩ := fs
  have key : ∀ (l : List Field), (l.all (fun f => (szOf P f.type).isSome) = true) → (l.mapM (m := Sem) fun f => do pure (f.offset, ← sizeOf f.type)).run P w = .ok (l.map fun f => (f.offset, (szOf P f.type).getD 0)) w := by
    intro l
    induction l with
    | nil => intro _; simp
    | cons f r ih =>
      intro h
      simp only [List.all_cons, Bool.and_eq_true] at h
      obtain ⟨n, hn⟩ := Option.isSome_iff_exists.1 h.1
      have h2 := ih h.2
      simp only [List.mapM_cons, Sem.run_bind, szOf_run hn, Result.andThen_ok, Sem.run_pure]
      rw [h2]
      simp [hn]
  have h := key l (by simpa using hall)
  simp only [List.mapM_toArray, Sem.run_map, h, Result.andThen_ok]
  simp

theorem build_ok {t : TypeId} {fs : Array Field} {z : List Value} {ps : Array (Nat × Operand)} {l : List (Nat × Nat × Arg)} (ht : P.underlying t = some (.struct fs)) (hz : zOf P t = some z)
    (hl : plA P N (fun (i : Nat) => fs[i]?.bind fun (f : Field) => (szOf P f.type).map fun n => (f.offset, n)) ps.toList = some l) (hall : fs.all (fun f => (szOf P f.type).isSome) = true) (h : vcI P (.build z l) ρ w k) :
    ∃ v w', (Instr.build t (ps.map fun (i, x) => (i, (act N ρ).eval x))).run P w = .ok v w' ∧ k v w' := by
  obtain ⟨r, hr, hk⟩ := seqO_ex h
  refine ⟨_, w, ?_, hk⟩
  obtain ⟨v, hv, hrun⟩ := zOf_run hz
  have hfill := fill_ok (P := P) (N := N) (ρ := ρ) (fun (i : Nat) => fs[i]?.bind fun (f : Field) => (szOf P f.type).map fun n => (f.offset, n)) ps.toList l v.cells r hl (by rw [hv]; exact hr)
  have hpl : (fun (i : Nat) => (fs.map fun (f : Field) => (f.offset, (szOf P f.type).getD 0))[i]?) = (fun (i : Nat) => fs[i]?.bind fun (f : Field) => (szOf P f.type).map fun n => (f.offset, n)) := by
    funext i
    rw [Array.getElem?_map]
    cases hi : fs[i]? with
    | none => rfl
    | some f =>
      have := Array.all_eq_true.1 hall i (Array.getElem?_eq_some_iff.1 hi).1
      rw [(Array.getElem?_eq_some_iff.1 hi).2] at this
      obtain ⟨n, hn⟩ := Option.isSome_iff_exists.1 this
      simp [hn]
  have hps : (ps.map fun (x : Nat × Operand) => (x.1, (act N ρ).eval x.2)).toList = ps.toList.map fun p => (p.1, (act N ρ).eval p.2) := by simp
  simp only [Instr.build, Sem.run_bind, hrun w, Result.andThen_ok, run_underlying ht]
  have hm := mapM_places (P := P) (w := w) fs hall
  rw [hm]
  simp only [Result.andThen_ok]
  have hfill' : Instr.fill (fun (i : Nat) => (fs.map fun (f : Field) => (f.offset, (szOf P f.type).getD 0))[i]?) v.cells (ps.map fun (x : Nat × Operand) => (x.1, (act N ρ).eval x.2)).toList = some r.toArray := by
    rw [hpl, hps]; exact hfill
  rw [hfill']
  rfl

theorem buildA_ok {t e : TypeId} {len n : Nat} {z : List Value} {ps : Array (Nat × Operand)} {l : List (Nat × Nat × Arg)} (ht : P.underlying t = some (.array len e)) (hz : zOf P t = some z) (hn : szOf P e = some n)
    (hl : plA P N (fun i => some (i * n, n)) ps.toList = some l) (h : vcI P (.build z l) ρ w k) :
    ∃ v w', (Instr.build t (ps.map fun (i, x) => (i, (act N ρ).eval x))).run P w = .ok v w' ∧ k v w' := by
  obtain ⟨r, hr, hk⟩ := seqO_ex h
  refine ⟨_, w, ?_, hk⟩
  obtain ⟨v, hv, hrun⟩ := zOf_run hz
  have hfill := fill_ok (P := P) (N := N) (ρ := ρ) (fun i => some (i * n, n)) ps.toList l v.cells r hl (by rw [hv]; exact hr)
  have hps : (ps.map fun (x : Nat × Operand) => (x.1, (act N ρ).eval x.2)).toList = ps.toList.map fun p => (p.1, (act N ρ).eval p.2) := by simp
  simp only [Instr.build, Sem.run_bind, hrun w, Result.andThen_ok, run_underlying ht, szOf_run hn]
  rw [← hps] at hfill
  rw [hfill]
  rfl

theorem rep_flat (z : List Value) (n len : Nat) (hn : z.length = n) (hp : 0 < n) : ((Array.range (len * n)).map fun i => z.toArray[i % z.toArray.size]!).toList = (List.replicate len z).flatten := by
  apply List.ext_getElem?
  intro i
  have hl : ((List.replicate len z).flatten).length = len * n := by simp [hn]
  by_cases hi : i < len * n
  · rw [List.getElem?_eq_getElem (by simpa using hi), List.getElem?_eq_getElem (by rw [hl]; exact hi)]
    congr 1
    have hm : i % n < n := Nat.mod_lt _ hp
    have h2 : (List.replicate len z).flatten[i]'(by rw [hl]; exact hi) = z[i % n]'(by omega) := by
      have : ∀ (len i : Nat) (h : i < ((List.replicate len z).flatten).length), (List.replicate len z).flatten[i]'h = z[i % n]'(by have := Nat.mod_lt i hp; omega) := by
        intro len
        induction len with
        | zero => intro i h; simp at h
        | succ m ih =>
          intro i h
          by_cases hin : i < n
          · have h1 : i % n = i := Nat.mod_eq_of_lt hin
            have h3 : (z ++ (List.replicate m z).flatten)[i]'(by simpa [List.replicate_succ] using h) = z[i]'(by omega) := List.getElem_append_left (by omega)
            simp only [List.replicate_succ, List.flatten_cons, h1]
            exact h3
          · have h1 : i % n = (i - n) % n := Nat.mod_eq_sub_mod (by omega)
            have h3 : (z ++ (List.replicate m z).flatten)[i]'(by simpa [List.replicate_succ] using h) = (List.replicate m z).flatten[i - z.length]'(by simp [List.replicate_succ] at h; simp; omega) := List.getElem_append_right (by omega)
            simp only [List.replicate_succ, List.flatten_cons, h1]
            rw [h3, ih]
            simp only [hn]
      exact this len i _
    rw [h2]
    have hz : i % z.length < z.length := by rw [hn]; exact hm
    simp [hn, hm]
  · rw [List.getElem?_eq_none (by simpa using Nat.le_of_not_lt hi), List.getElem?_eq_none (by rw [hl]; omega)]
theorem mks_ok {t e : TypeId} {i : TypeInfo} {z : Value} {l c : Arg} (ht : P.underlying t = some (.slice e)) (hi : P.info? e = some i) (hz : i.zero = some z)
    (h : vcI P (.mks e i.size i.bytes z.cells.toList l c) ρ w k) : ∃ v w', (Instr.makeSlice t (l.ev ρ) (c.ev ρ)).run P w = .ok v w' ∧ k v w' := by
  replace h : mksP e i.size i.bytes z.cells.toList (l.ev ρ) (c.ev ρ) w k := h
  unfold mksP at h
  split at h
  · rename_i ka a kb b hl hc
    obtain ⟨h1, h2, h3, h4, h5, h6, hk⟩ := h
    refine ⟨_, _, ?_, hk⟩
    have hr := run_make (P := P) w t e i z ht hi hz ka kb a b h1 h2 h4 h3
    rw [hl, hc, hr]
    have e := rep_flat z.cells.toList i.size b.toNat h5 h6
    have e2 : madeCells z.cells (b.toNat * i.size) = (List.replicate b.toNat z.cells.toList).flatten.toArray := by
      rw [← Array.toList_inj, ← e]
      simp [madeCells]
    rw [e2]
    rfl
  · exact h.elim


theorem bsl_ok {t e : TypeId} {len n : Nat} {z : List Value} {ps : Array (Nat × Operand)} {l : List (Nat × Nat × Arg)} (ht : P.underlying t = some (.slice e)) (hz : zOf P e = some z) (hn : szOf P e = some n)
    (hl : plA P N (fun i => some (i * n, n)) ps.toList = some l) (hc : z.length = n ∧ 0 < n ∧ len * n ≤ 16777216) (h : vcI P (.bsl e len ((List.replicate len z).flatten) l) ρ w k) :
    ∃ v w', (Instr.buildSlice t len (ps.map fun (i, x) => (i, (act N ρ).eval x))).run P w = .ok v w' ∧ k v w' := by
  obtain ⟨r, hr, hk⟩ := seqO_ex h
  refine ⟨_, _, ?_, hk⟩
  obtain ⟨v, hv, hrun⟩ := zOf_run hz
  obtain ⟨c1, c2, c3⟩ := hc
  have hps : (ps.map fun (x : Nat × Operand) => (x.1, (act N ρ).eval x.2)).toList = ps.toList.map fun p => (p.1, (act N ρ).eval p.2) := by simp
  have hfill := fun (zz : Array Value) (hzz : zz.toList = (List.replicate len z).flatten) => fill_ok (P := P) (N := N) (ρ := ρ) (fun i => some (i * n, n)) ps.toList l zz r hl (by rw [hzz]; exact hr)
  have hbig : ¬ (len * n > 2 ^ 24) := by omega
  simp only [Instr.buildSlice, Sem.run_bind, run_underlying ht, Result.andThen_ok, szOf_run hn, if_neg hbig]
  by_cases h0 : len * n = 0
  · have hz0 : (Array.map (fun x => (#[] : Array Value)[x % (#[] : Array Value).size]!) (Array.range (len * n))).toList = (List.replicate len z).flatten := by
      have : len = 0 := by
        rcases Nat.mul_eq_zero.1 h0 with h | h
        · exact h
        · omega
      subst this
      simp
    have hf := hfill _ hz0
    rw [← hps] at hf
    simp only [h0] at hf
    simp only [h0, if_true, Sem.run_bind, Sem.run_pure, Result.andThen_ok]
    rw [hf]
    simp only [newRow, newObj]
    rfl
  · have hz0 : (Array.map (fun x => v.cells[x % v.cells.size]!) (Array.range (len * n))).toList = (List.replicate len z).flatten := by
      rw [← rep_flat z n len c1 c2, ← hv]
    have hf := hfill _ hz0
    rw [← hps] at hf
    simp only [if_neg h0, Sem.run_bind, hrun w, Result.andThen_ok, Sem.run_pure]
    rw [hf]
    simp only [newRow, newObj]
    rfl

theorem okFn_run {f : Nat} {args : Array Value} (h : okFn P f = true) : (callFunc f args).run P w = .ok (.enter f args) w := by
  unfold okFn at h
  split at h
  · rename_i fn hfn
    simp only [Bool.and_eq_true, Bool.not_eq_true'] at h
    obtain ⟨h1, h2⟩ := h
    have h3 : fn.body ≠ none := by
      intro hb; simp [hb] at h1
    have h4 : fn.name ≠ "runtime.NumGoroutine" := by simpa using h2
    simp [callFunc, program, Sem.run, hfn, h4, h3]
  · cases h
theorem call_ok {f : Nat} {args : List Arg} {c : Call} {ty : TypeId} (hcl : c.callee = .value (.func f)) (hok : okFn P f = true) (ha : allA N c.args.toList = some args) (h : callP P f (argsV ρ args) w k) :
    Goes P w k ((do let d ← resolve (act N ρ).eval c ty; invoke d.target d.args : Sem Next).run P w) := by
  have e : (c.args.map (act N ρ).eval) = (argsV ρ args).toArray := by
    rw [← Array.toList_inj]; simp [← allA_ev ha]
  simp only [resolve, hcl, Act.eval, Deferred.ofValue, Sem.run_bind, Sem.run_pure, Result.andThen_ok, invoke, e]
  simp only [Array.append_empty, Array.empty_append, okFn_run hok]
  exact ⟨rfl, h⟩
theorem ext_ok {f : Nat} {args : List Arg} {c : Call} {ty : TypeId} (hcl : c.callee = .value (.func f)) (ha : allA N c.args.toList = some args) (h : genP P (.ext f) (argsV ρ args) w k) :
    Goes P w k ((do let d ← resolve (act N ρ).eval c ty; invoke d.target d.args : Sem Next).run P w) := by
  have e : (c.args.map (act N ρ).eval) = (argsV ρ args).toArray := by
    rw [← Array.toList_inj]; simp [← allA_ev ha]
  simp only [resolve, hcl, Act.eval, Deferred.ofValue, Sem.run_bind, Sem.run_pure, Result.andThen_ok, invoke, e]
  simp only [Array.append_empty, Array.empty_append]
  obtain ⟨v, w', hr, hk⟩ := h
  simp only [lkSem, Sem.run_bind] at hr
  generalize (callFunc f (argsV ρ args).toArray).run P w = x at hr ⊢
  cases x with
  | halt a b => cases hr
  | ok n w'' =>
    simp only [Result.andThen_ok] at hr
    cases n with
    | value u =>
      simp only [Sem.run_pure, Result.ok.injEq] at hr
      obtain ⟨rfl, rfl⟩ := hr
      exact hk
    | _ => cases hr
theorem callv_ok {x : Operand} {fa : Arg} {args : List Arg} {c : Call} {ty : TypeId} (hcl : c.callee = .value x) (hx : trA N x = some fa) (ha : allA N c.args.toList = some args) (h : callvP P (fa.ev ρ) (argsV ρ args) w k) :
    Goes P w k ((do let d ← resolve (act N ρ).eval c ty; invoke d.target d.args : Sem Next).run P w) := by
  have e : (c.args.map (act N ρ).eval) = (argsV ρ args).toArray := by
    rw [← Array.toList_inj]; simp [← allA_ev ha]
  unfold callvP at h
  split at h
  · rename_i g first cap hf
    obtain ⟨hok, h⟩ := h
    simp only [resolve, hcl, trA_ev hx, hf, Deferred.ofValue, Sem.run_bind, Sem.run_pure, Result.andThen_ok, invoke, e, okFn_run hok]
    have e2 : first ++ (argsV ρ args).toArray ++ cap = (first.toList ++ argsV ρ args ++ cap.toList).toArray := by
      rw [← Array.toList_inj]; simp
    rw [e2]
    exact ⟨rfl, h⟩
  · rename_i l first cap hf
    obtain ⟨rfl, rfl, fn, tmps, assign, body, hy, hr⟩ := h
    simp only [resolve, hcl, trA_ev hx, hf, Deferred.ofValue, Sem.run_bind, Sem.run_pure, Result.andThen_ok, invoke, e, Array.empty_append, hy]
    exact ⟨rfl, hr⟩
  · exact h.elim
end
end Go.Proofs.YtpnefcapiiemdaaGreatDoor.E

/- That the translation of an operation is sound, all together. Conditions: none. -/
namespace Go.Proofs.YtpnefcapiiemdaaGreatDoor.E
open Go.RowKit

section
variable {P : Program} {N : Nat} {ρ : Env} {w : World} {k : Value → World → Prop}

theorem lenS_ok {t ty : TypeId} {a : Value} {v : Value} (hu : P.underlying t = some .string) (h : lenV true a = some v) : (Builtin.len_ #[t] ty #[a]).run P w = .ok v w := by
  cases a <;> simp [lenV] at h
  subst h
  simp [Builtin.len_, run_underlying hu, goInt]
theorem lenL_ok {t e ty : TypeId} {a : Value} {v : Value} (hu : P.underlying t = some (.slice e)) (h : lenV false a = some v) : (Builtin.len_ #[t] ty #[a]).run P w = .ok v w := by
  cases a <;> simp [lenV] at h
  subst h
  simp [Builtin.len_, run_underlying hu, goInt]

theorem builtin_ok {b : Builtin} {args : List Operand} {ts : List TypeId} {vs : List Value} {c : Call} {ty : TypeId} {s : Sem Value} (hcl : c.callee = .builtin b) (ha : c.args = args.toArray) (ht : c.argTypes = ts.toArray) (hv : args.map (act N ρ).eval = vs)
    (hb : ∀ consts, builtin b ts.toArray ty consts vs.toArray = (do pure (.value (← s)))) (h : ∃ v w', s.run P w = .ok v w' ∧ k v w') :
    Goes P w k ((do let d ← resolve (act N ρ).eval c ty; invoke d.target d.args : Sem Next).run P w) := by
  have e : (c.args.map (act N ρ).eval) = vs.toArray := by
    rw [← Array.toList_inj]; simp [ha, hv]
  have hg := goes_value h
  simp only [Sem.run_bind, Sem.run_pure] at hg
  simp only [resolve, hcl, Sem.run_bind, Sem.run_pure, Result.andThen_ok, invoke, e, ht, hb]
  exact hg

theorem toList_two {α : Type} {a : Array α} {x y : α} (h : a.toList = [x, y]) : a = [x, y].toArray := by rw [← h]
theorem toList_one {α : Type} {a : Array α} {x : α} (h : a.toList = [x]) : a = [x].toArray := by rw [← h]

theorem trCall_ok {c : Call} {ty : TypeId} (h : vcI P (trCall P N c) ρ w k) : Goes P w k ((do let d ← resolve (act N ρ).eval c ty; invoke d.target d.args : Sem Next).run P w) := by
  unfold trCall at h
  split at h
  · rename_i f hcl
    obtain ⟨fa, hfa, h⟩ := A1_ok h
    obtain ⟨as, has, h⟩ := elim_ok h
    split at h
    · rename_i g
      split at h
      · rename_i hok
        exact call_ok hcl hok has h
      · exact ext_ok hcl has h
    · exact callv_ok hcl hfa has h
  · rename_i hcl
    split at h
    · rename_i x t hx ht
      obtain ⟨a, ha, h⟩ := A1_ok h
      split at h
      · rename_i hu
        obtain ⟨v, hv, hk⟩ := seqO_ex h
        exact builtin_ok (vs := [a.ev ρ]) hcl (toList_one hx) (toList_one ht) (by simp [trA_ev ha]) (fun _ => rfl) ⟨v, w, lenS_ok hu hv, hk⟩
      · rename_i hu
        obtain ⟨v, hv, hk⟩ := seqO_ex h
        exact builtin_ok (vs := [a.ev ρ]) hcl (toList_one hx) (toList_one ht) (by simp [trA_ev ha]) (fun _ => rfl) ⟨v, w, lenL_ok hu hv, hk⟩
      · exact h.elim
    · exact h.elim
  · rename_i hcl
    split at h
    · rename_i x y hx
      obtain ⟨a, ha, h⟩ := A1_ok h
      obtain ⟨b, hb, h⟩ := A1_ok h
      obtain ⟨v, hv, hk⟩ := seqO_ex h
      refine builtin_ok (vs := [a.ev ρ, b.ev ρ]) (ts := c.argTypes.toList) hcl (toList_two hx) (by simp) (by simp [trA_ev ha, trA_ev hb]) (fun _ => rfl) ⟨v, w, ?_, hk⟩
      unfold min2V at hv
      split at hv
      · rename_i h1 h2
        injection hv with hv
        subst hv
        simp [Builtin.min_, Builtin.min2, h1, h2]
      · cases hv
    · exact h.elim
  · rename_i hcl
    split at h
    · rename_i x y hx
      obtain ⟨a, ha, h⟩ := A1_ok h
      obtain ⟨b, hb, h⟩ := A1_ok h
      obtain ⟨v, hv, hk⟩ := seqO_ex h
      refine builtin_ok (vs := [a.ev ρ, b.ev ρ]) (ts := c.argTypes.toList) hcl (toList_two hx) (by simp) (by simp [trA_ev ha, trA_ev hb]) (fun _ => rfl) ⟨v, w, ?_, hk⟩
      unfold max2V at hv
      split at hv
      · rename_i h1 h2
        injection hv with hv
        subst hv
        simp [Builtin.max_, Builtin.max2, h1, h2]
      · cases hv
    · exact h.elim
  · rename_i hcl
    split at h
    · rename_i x y t u hx ht
      obtain ⟨a, ha, h⟩ := A1_ok h
      obtain ⟨b, hb, h⟩ := A1_ok h
      exact builtin_ok (vs := [a.ev ρ, b.ev ρ]) hcl (toList_two hx) (toList_two ht) (by simp [trA_ev ha, trA_ev hb]) (fun _ => rfl) h
    · exact h.elim
  · rename_i hcl
    split at h
    · rename_i x y t u hx ht
      obtain ⟨a, ha, h⟩ := A1_ok h
      obtain ⟨b, hb, h⟩ := A1_ok h
      exact builtin_ok (vs := [a.ev ρ, b.ev ρ]) hcl (toList_two hx) (toList_two ht) (by simp [trA_ev ha, trA_ev hb]) (fun _ => rfl) h
    · exact h.elim
  · exact h.elim

theorem goes_mup {t : TypeId} {a b c : Value} (h : genP P (.mup t) [a, b, c] w k) : Goes P w k ((do Instr.mapUpdate t a b c; pure .skip : Sem Next).run P w) := by
  obtain ⟨v, w', hr, hk⟩ := h
  simp only [lkSem, Sem.run_bind] at hr
  refine goes_unit ?_
  cases he : (Instr.mapUpdate t a b c).run P w with
  | halt x y => rw [he] at hr; cases hr
  | ok u w'' =>
    rw [he] at hr
    simp only [Result.andThen_ok, Sem.run_pure, Result.ok.injEq] at hr
    obtain ⟨rfl, rfl⟩ := hr
    exact ⟨w'', rfl, hk⟩
theorem goes_est {t : TypeId} {a b c : Value} (h : genP P (.est t) [a, b, c] w k) : Goes P w k ((do Instr.entryStore t a b c; pure .skip : Sem Next).run P w) := by
  obtain ⟨v, w', hr, hk⟩ := h
  simp only [lkSem, Sem.run_bind] at hr
  refine goes_unit ?_
  cases he : (Instr.entryStore t a b c).run P w with
  | halt x y => rw [he] at hr; cases hr
  | ok u w'' =>
    rw [he] at hr
    simp only [Result.andThen_ok, Sem.run_pure, Result.ok.injEq] at hr
    obtain ⟨rfl, rfl⟩ := hr
    exact ⟨w'', rfl, hk⟩
theorem trBlt_ok {c : Call} {ty : TypeId} (h : vcI P (trBlt N c ty) ρ w k) : Goes P w k ((do let d ← resolve (act N ρ).eval c ty; invoke d.target d.args : Sem Next).run P w) := by
  unfold trBlt at h
  split at h
  · rename_i b hcl
    obtain ⟨as, has, h⟩ := elim_ok h
    have hv := allA_ev (ρ := ρ) has
    split at h <;> first | exact h.elim | exact builtin_ok (ts := c.argTypes.toList) hcl (by simp) (by simp) hv (fun _ => rfl) h
  · exact h.elim

theorem trI_ok {o : Oper} (h : vcI P (trI P N o) ρ w k) : Goes P w k ((execOp (act N ρ).eval o).run P w) := by
  unfold trI at h
  split at h
  case h_1 x hop => 
    obtain ⟨a, ha, h⟩ := A1_ok h
    simp only [execOp, hop, Sem.run_pure, trA_ev ha]; exact h
  case h_2 x hop => 
    obtain ⟨a, ha, h⟩ := A1_ok h
    simp only [execOp, hop, Sem.run_pure, trA_ev ha]; exact h
  case h_3 c a b hop =>
    obtain ⟨c', hc, h⟩ := A1_ok h
    obtain ⟨a', ha, h⟩ := A1_ok h
    obtain ⟨b', hb, h⟩ := A1_ok h
    obtain ⟨t, ht, hk⟩ := seqO_ex h
    unfold asB at ht
    split at ht <;> first | (cases ht; done) | skip
    rename_i hcv
    injection ht with ht; subst ht
    simp only [execOp, hop, trA_ev hc, trA_ev ha, trA_ev hb, hcv, asBool, Sem.run_bind, Sem.run_pure, Result.andThen_ok]
    exact hk
  case h_4 t hop =>
    obtain ⟨z, hz, h⟩ := elim_ok h
    simp only [execOp, hop]
    exact goes_value ⟨_, _, alloc_ok hz, h⟩
  case h_5 t x hop =>
    obtain ⟨a, ha, h⟩ := A1_ok h
    simp only [execOp, hop, trA_ev ha]
    exact goes_value ⟨_, _, box_ok, h⟩
  case h_6 t x hop =>
    obtain ⟨a, ha, h⟩ := A1_ok h
    simp only [execOp, hop, trA_ev ha]
    exact goes_value (load_ok h)
  case h_7 t x y hop =>
    obtain ⟨a, ha, h⟩ := A1_ok h
    obtain ⟨b, hb, h⟩ := A1_ok h
    obtain ⟨n, hn, h⟩ := elim_ok h
    simp only [execOp, hop, trA_ev ha, trA_ev hb]
    exact goes_unit (store_ok hn h)
  case h_8 x hop =>
    obtain ⟨a, ha, h⟩ := A1_ok h
    obtain ⟨v, hv, hk⟩ := seqO_ex h
    simp only [execOp, hop, trA_ev ha]
    unfold nckV at hv
    split at hv <;> first | (cases hv; done) | skip
    all_goals
      rename_i heq
      injection hv with hv
      subst hv
      rw [heq]
      exact hk
  case h_9 op t x y _ hop =>
    obtain ⟨a, ha, h⟩ := A1_ok h
    obtain ⟨b, hb, h⟩ := A1_ok h
    split at h
    · simp only [execOp, hop, trA_ev ha, trA_ev hb]
      exact goes_value h
    · obtain ⟨v, hv, hk⟩ := bin_ok h
      simp only [execOp, hop, trA_ev ha, trA_ev hb]
      exact goes_value ⟨v, w, hv, hk⟩
  case h_10 op _ x hop =>
    obtain ⟨a, ha, h⟩ := A1_ok h
    obtain ⟨v, hv, hk⟩ := seqO_ex h
    simp only [execOp, hop, trA_ev ha]
    exact goes_value ⟨v, w, un_run hv, hk⟩
  case h_11 s x f hop =>
    obtain ⟨a, ha, h⟩ := A1_ok h
    obtain ⟨fd, hfd, h⟩ := elim_ok h
    split at h
    · rename_i n hn
      obtain ⟨v, hv, hk⟩ := seqO_ex h
      simp only [execOp, hop, trA_ev ha]
      exact goes_value ⟨v, w, fld_ok hfd hn hv, hk⟩
    · exact h.elim
  case h_12 s x f hop =>
    obtain ⟨a, ha, h⟩ := A1_ok h
    obtain ⟨fd, hfd, h⟩ := elim_ok h
    obtain ⟨fs, hs, hf⟩ := fOf_some hfd
    simp only [execOp, hop, trA_ev ha]
    split at h
    · rename_i d hd
      split at h
      · rename_i hag
        split at h
        · rename_i n hn
          obtain ⟨v, hv, hk⟩ := seqO_ex h
          unfold getNV at hv
          split at hv <;> first | (cases hv; done) | skip
          rename_i cs hcs
          injection hv with hv; subst hv
          refine goes_value ⟨_, w, ?_, hk⟩
          simp only [Instr.field, Sem.run_bind, run_underlying hs, Result.andThen_ok, hf, hcs, asAgg, Sem.run_pure, partN_run hd hag hn]
        · exact h.elim
      · rename_i hag
        obtain ⟨v, hv, hk⟩ := seqO_ex h
        unfold get1V at hv
        split at hv <;> first | (cases hv; done) | skip
        rename_i cs hcs
        refine goes_value ⟨_, w, ?_, hk⟩
        simp only [Instr.field, Sem.run_bind, run_underlying hs, Result.andThen_ok, hf, hcs, asAgg, Sem.run_pure, part1_run hd (by simpa using hag) hv]
    · exact h.elim
  case h_13 t x i hop =>
    obtain ⟨a, ha, h⟩ := A1_ok h
    obtain ⟨b, hb, h⟩ := A1_ok h
    simp only [execOp, hop, trA_ev ha, trA_ev hb]
    split at h
    · rename_i e he
      split at h
      · rename_i n hn
        obtain ⟨v, hv, hk⟩ := seqO_ex h
        exact goes_value ⟨v, w, idx_ok he hn hv, hk⟩
      · exact h.elim
    · rename_i len e he
      split at h
      · rename_i n hn
        obtain ⟨v, hv, hk⟩ := seqO_ex h
        exact goes_value ⟨v, w, idxA_ok he hn hv, hk⟩
      · exact h.elim
    · exact h.elim
  case h_14 t x i hop =>
    obtain ⟨a, ha, h⟩ := A1_ok h
    obtain ⟨b, hb, h⟩ := A1_ok h
    simp only [execOp, hop, trA_ev ha, trA_ev hb]
    split at h
    · rename_i he
      obtain ⟨v, hv, hk⟩ := seqO_ex h
      exact goes_value ⟨v, w, ixS_ok he hv, hk⟩
    · exact h.elim
  case h_15 t x lo hi mx hop =>
    obtain ⟨a, ha, h⟩ := A1_ok h
    obtain ⟨l, hl, h⟩ := elim_ok h
    obtain ⟨u, hu, h⟩ := elim_ok h
    simp only [execOp, hop, trA_ev ha, optA_ev hl, optA_ev hu]
    split at h
    · exact goes_value (slice_ok h)
    · exact h.elim
  case h_16 s d x hop =>
    obtain ⟨a, ha, h⟩ := A1_ok h
    simp only [execOp, hop, trA_ev ha]
    rcases orGen_ok h with h | h
    · exact goes_value (conv_ok h)
    · exact goes_value h
  case h_17 fn first cap hop =>
    simp only [execOp, hop]
    split at h
    · obtain ⟨a, ha, h⟩ := elim_ok h
      obtain ⟨b, hb, h⟩ := elim_ok h
      have e1 : first.map (act N ρ).eval = (argsV ρ a).toArray := by rw [← Array.toList_inj]; simp [← allA_ev ha]
      have e2 : cap.map (act N ρ).eval = (argsV ρ b).toArray := by rw [← Array.toList_inj]; simp [← allA_ev hb]
      rw [e1, e2]
      exact goes_value ⟨_, w, rfl, h⟩
    · exact h.elim
  case h_18 t hop =>
    simp only [execOp, hop]
    exact goes_value ⟨_, _, rfl, h⟩
  case h_19 t l c hop =>
    obtain ⟨a, ha, h⟩ := A1_ok h
    obtain ⟨b, hb, h⟩ := A1_ok h
    simp only [execOp, hop, trA_ev ha, trA_ev hb]
    split at h
    · rename_i e he
      split at h
      · rename_i i hi
        split at h
        · rename_i z hz
          exact goes_value (mks_ok he hi hz h)
        · exact h.elim
      · exact h.elim
    · exact h.elim
  case h_20 t ps hop =>
    simp only [execOp, hop]
    split at h
    · rename_i fs hfs
      obtain ⟨z, hz, h⟩ := elim_ok h
      obtain ⟨l, hl, h⟩ := elim_ok h
      split at h
      · rename_i hall
        exact goes_value (build_ok hfs hz hl hall h)
      · exact h.elim
    · rename_i len e he
      obtain ⟨z, hz, h⟩ := elim_ok h
      obtain ⟨n, hn, h⟩ := elim_ok h
      obtain ⟨l, hl, h⟩ := elim_ok h
      exact goes_value (buildA_ok he hz hn hl h)
    · exact h.elim
  case h_21 t len ps hop =>
    simp only [execOp, hop]
    split at h
    · rename_i e he
      obtain ⟨z, hz, h⟩ := elim_ok h
      obtain ⟨n, hn, h⟩ := elim_ok h
      obtain ⟨l, hl, h⟩ := elim_ok h
      split at h
      · rename_i hc
        exact goes_value (bsl_ok he hz hn hl hc h)
      · exact h.elim
    · exact h.elim
  case h_22 x i hop =>
    obtain ⟨a, ha, h⟩ := A1_ok h
    obtain ⟨v, hv, hk⟩ := seqO_ex h
    simp only [execOp, hop, trA_ev ha]
    refine goes_value ⟨v, w, ?_, hk⟩
    unfold extV at hv
    split at hv <;> first | (cases hv; done) | skip
    rename_i vs hvs
    have hv' : vs[i]? = some v := by simpa using hv
    simp [Instr.extract, hvs, hv']
  case h_23 c hop =>
    simp only [execOp, hop]
    rcases orGen_ok h with h | h
    · exact trCall_ok h
    · exact trBlt_ok h
  case h_24 t x i ok hop =>
    obtain ⟨a, ha, h⟩ := A1_ok h
    obtain ⟨b, hb, h⟩ := A1_ok h
    simp only [execOp, hop, trA_ev ha, trA_ev hb]
    exact goes_value h
  case h_25 t m kk x hop =>
    obtain ⟨a, ha, h⟩ := A1_ok h
    obtain ⟨b, hb, h⟩ := A1_ok h
    obtain ⟨c, hc, h⟩ := A1_ok h
    simp only [execOp, hop, trA_ev ha, trA_ev hb, trA_ev hc]
    exact goes_mup h
  case h_26 t m kk x hop =>
    obtain ⟨a, ha, h⟩ := A1_ok h
    obtain ⟨b, hb, h⟩ := A1_ok h
    obtain ⟨c, hc, h⟩ := A1_ok h
    simp only [execOp, hop, trA_ev ha, trA_ev hb, trA_ev hc]
    exact goes_mup h
  case h_27 t r hop =>
    obtain ⟨a, ha, h⟩ := A1_ok h
    simp only [execOp, hop, Option.map_some, trA_ev ha]
    exact goes_value h
  case h_28 t x hop =>
    obtain ⟨a, ha, h⟩ := A1_ok h
    simp only [execOp, hop, trA_ev ha]
    exact goes_value h
  case h_29 x s hop =>
    obtain ⟨a, ha, h⟩ := A1_ok h
    simp only [execOp, hop, trA_ev ha]
    exact goes_value h
  case h_30 x hop =>
    obtain ⟨a, ha, h⟩ := A1_ok h
    simp only [execOp, hop, trA_ev ha]
    exact goes_value h
  case h_31 t x hop =>
    obtain ⟨a, ha, h⟩ := A1_ok h
    simp only [execOp, hop, trA_ev ha]
    exact goes_value h
  case h_32 x t u ok hop =>
    obtain ⟨a, ha, h⟩ := A1_ok h
    simp only [execOp, hop, trA_ev ha]
    exact goes_value h
  case h_33 t m kk hop =>
    obtain ⟨a, ha, h⟩ := A1_ok h
    obtain ⟨b, hb, h⟩ := A1_ok h
    simp only [execOp, hop, trA_ev ha, trA_ev hb]
    exact goes_value h
  case h_34 t m kk x hop =>
    obtain ⟨a, ha, h⟩ := A1_ok h
    obtain ⟨b, hb, h⟩ := A1_ok h
    obtain ⟨c, hc, h⟩ := A1_ok h
    simp only [execOp, hop, trA_ev ha, trA_ev hb, trA_ev hc]
    exact goes_est h
  case h_35 => exact h.elim
end
end Go.Proofs.YtpnefcapiiemdaaGreatDoor.E

/- The calculus of code: what a body asks, that this is sound, what stays as it was. Conditions: none. -/
namespace Go.Proofs.YtpnefcapiiemdaaGreatDoor.E
open Go.RowKit

structure St where
  dst : Option Nat
  grd : Option (Nat × Bool)
  ins : Ins
def trO (P : Program) (N : Nat) (ops : Array Oper) (o : Oper) : St :=
  match o.guard with
  | none => ⟨o.dst, none, trI P N o⟩
  | some (j, want) =>
    match (ops[j]?).bind (·.dst) with
    | some s => if s < N then ⟨o.dst, some (s, want), trI P N o⟩ else ⟨o.dst, none, .bad⟩
    | none => ⟨o.dst, none, .bad⟩
abbrev Post := Exit → Env → World → Prop
def thenQ (K : Env → World → Prop) (Q : Post) : Post := fun e ρ w => match e with | .normal => K ρ w | e => Q e ρ w
def blkQ (id : Nat) (Q : Post) : Post := fun e ρ w => match e with | .exit i => if i = id then Q .normal ρ w else Q (.exit i) ρ w | e => Q e ρ w
def grdP (v : Value) (want : Bool) (X Y : Prop) : Prop := match v with | .bool b => if b = want then X else Y | _ => Y
def condP (v : Value) (X Y : Prop) : Prop := match v with | .bool true => X | .bool false => Y | _ => False
theorem grdP_mono {v : Value} {want : Bool} {X Y X' Y' : Prop} (hx : X → X') (hy : Y → Y') (h : grdP v want X Y) : grdP v want X' Y' := by
  unfold grdP at *
  split at h
  · split at h
    · rename_i hc; rw [if_pos hc]; exact hx h
    · rename_i hc; rw [if_neg hc]; exact hy h
  · exact hy h
theorem condP_mono {v : Value} {X Y X' Y' : Prop} (hx : X → X') (hy : Y → Y') (h : condP v X Y) : condP v X' Y' := by
  unfold condP at *
  split at h
  · exact hx h
  · exact hy h
  · exact h.elim

def vcL (P : Program) : List St → Post → Env → World → Prop
  | [], Q, ρ, w => Q .normal ρ w
  | s :: r, Q, ρ, w =>
    match s.grd with
    | none => vcI P s.ins ρ w fun v w' => vcL P r Q (upd ρ s.dst v) w'
    | some (g, want) => grdP (ρ g) want (vcI P s.ins ρ w fun v w' => vcL P r Q (upd ρ s.dst v) w') (vcL P r Q (upd ρ s.dst undef) w)
section
variable {P : Program} {N : Nat} {ρ : Env} {w : World}

def lift (N : Nat) (Q : Post) : Exit → Act → World → Prop := fun e a w => ∃ ρ, a = act N ρ ∧ Q e ρ w

theorem vcI_mono {i : Ins} {k k' : Value → World → Prop} (hk : ∀ v w, k v w → k' v w) (h : vcI P i ρ w k) : vcI P i ρ w k' := by
  cases i
  case mov => exact hk _ _ h
  case alloc => exact hk _ _ h
  case box => exact hk _ _ h
  case mkf => exact hk _ _ h
  case mkm => exact hk _ _ h
  case bad => exact h.elim
  case chk => exact ⟨h.1, hk _ _ h.2⟩
  case chkN => exact ⟨h.1, hk _ _ h.2⟩
  case mks e sz bytes z l c =>
    replace h : mksP e sz bytes z (l.ev ρ) (c.ev ρ) w k := h
    show mksP e sz bytes z (l.ev ρ) (c.ev ρ) w k'
    unfold mksP at *
    split at h
    · exact ⟨h.1, h.2.1, h.2.2.1, h.2.2.2.1, h.2.2.2.2.1, h.2.2.2.2.2.1, hk _ _ h.2.2.2.2.2.2⟩
    · exact h.elim
  case cvBS x =>
    replace h : cvBSP w (x.ev ρ) (fun v => k v w) := h
    show cvBSP w (x.ev ρ) (fun v => k' v w)
    unfold cvBSP at *
    split at h
    · exact hk _ _ h
    · obtain ⟨l, h1, h2, h3⟩ := h; exact ⟨l, h1, h2, hk _ _ h3⟩
    · exact h.elim
  case call f as => exact Calls.mono (R := fun e w' => ∃ v, e = .returned v ∧ k v w') h fun e w' ⟨v, he, hh⟩ => ⟨v, he, hk _ _ hh⟩
  case callv x as =>
    replace h : callvP P (x.ev ρ) (argsV ρ as) w k := h
    show callvP P (x.ev ρ) (argsV ρ as) w k'
    unfold callvP at *
    split at h
    · exact ⟨h.1, Calls.mono (R := fun e w' => ∃ v, e = .returned v ∧ k v w') h.2 fun e w' ⟨v, he, hh⟩ => ⟨v, he, hk _ _ hh⟩⟩
    · obtain ⟨h1, h2, f, tmps, assign, body, h3, h4⟩ := h
      exact ⟨h1, h2, f, tmps, assign, body, h3, RoundIn.mono (R := fun e w' => ∃ v, e = .returned v ∧ k v w') h4 fun e w' ⟨v, he, hh⟩ => ⟨v, he, hk _ _ hh⟩⟩
    · exact h.elim
  case app t u x y => obtain ⟨v, w', h1, h2⟩ := h; exact ⟨v, w', h1, hk _ _ h2⟩
  case cpy t u x y => obtain ⟨v, w', h1, h2⟩ := h; exact ⟨v, w', h1, hk _ _ h2⟩
  case gen kd xs => obtain ⟨v, w', h1, h2⟩ := h; exact ⟨v, w', h1, hk _ _ h2⟩
  all_goals exact seqO_mono (fun _ hh => hk _ _ hh) h

theorem vcL_mono : ∀ {l : List St} {Q Q' : Post} {ρ : Env} {w : World}, (∀ e ρ w, Q e ρ w → Q' e ρ w) → vcL P l Q ρ w → vcL P l Q' ρ w
  | [], _, _, _, _, hq, h => hq _ _ _ h
  | s :: r, Q, Q', ρ, w, hq, h => by
    simp only [vcL] at h ⊢
    split at h
    · rename_i hg; exact vcI_mono (fun v w h => vcL_mono hq h) h
    · rename_i hg; exact grdP_mono (fun h => vcI_mono (fun v w h => vcL_mono hq h) h) (vcL_mono hq) h
theorem thenQ_mono {K K' : Env → World → Prop} {Q Q' : Post} (hk : ∀ ρ w, K ρ w → K' ρ w) (hq : ∀ e ρ w, Q e ρ w → Q' e ρ w) (e : Exit) (ρ : Env) (w : World) (h : thenQ K Q e ρ w) : thenQ K' Q' e ρ w := by
  cases e with
  | normal => exact hk _ _ h
  | _ => exact hq _ _ _ h
theorem blkQ_mono {id : Nat} {Q Q' : Post} (hq : ∀ e ρ w, Q e ρ w → Q' e ρ w) (e : Exit) (ρ : Env) (w : World) (h : blkQ id Q e ρ w) : blkQ id Q' e ρ w := by
  cases e with
  | exit i =>
    simp only [blkQ] at h ⊢
    split at h
    · rename_i hc; simp [hc]; exact hq _ _ _ h
    · rename_i hc; simp [hc]; exact hq _ _ _ h
  | _ => exact hq _ _ _ h
/-! ### Soundness -/
def boolOf : Value → Option Bool | .bool b => some b | _ => none
theorem act_yield {ops : Array Oper} {j s : Nat} (h : (ops[j]?).bind (·.dst) = some s) (hs : s < N) : yielded ops (act N ρ).tmps j = boolOf (ρ s) := by
  unfold yielded
  rw [h]
  have : (act N ρ).tmps[s]? = some (ρ s) := by simp [act, hs]
  simp only [Option.bind_some, this]
  cases ρ s <;> rfl

/-- Nothing here is kept in slot N. -/
def dOk (N : Nat) (l : List Oper) : Bool := l.all fun o => o.dst != some N
theorem trI_nd {o : Oper} {k : Value → World → Prop} (h : vcI P (trI P N o) ρ w k) : ∀ c, o.op ≠ .defer c := by
  intro c hc
  simp only [trI, hc] at h
  exact h
theorem vcL_ok {ro : Option Nat} {ops : Array Oper} {Q : Post} : ∀ {l : List Oper} {ρ : Env} {w : World}, dOk N l = true → vcL P (l.map (trO P N ops)) Q ρ w → wpListIn (fz ro) 0 P ops (lift N Q) l (act N ρ) w
  | [], ρ, w, _, h => ⟨ρ, rfl, h⟩
  | o :: r, ρ, w, hd, h => by
    simp only [dOk, List.all_cons, Bool.and_eq_true, bne_iff_ne] at hd
    have ih := fun {ρ w} h => @vcL_ok ro ops Q r ρ w hd.2 h
    have hd := hd.1
    simp only [List.map_cons, vcL] at h
    unfold wpListIn
    have run : vcI P (trI P N o) ρ w (fun v w' => vcL P (r.map (trO P N ops)) Q (upd ρ o.dst v) w') → Oper.wpIn (fz ro) 0 P o (act N ρ) w (wpListIn (fz ro) 0 P ops (lift N Q) r) (lift N Q) := by
      intro hh
      refine Goes.wp (trI_nd hh) (trI_ok (vcI_mono (fun v w' hv => ?_) hh))
      rw [act_put _ _ _ _ hd]
      exact ih hv
    cases hg : o.guard with
    | none =>
      simp only [trO, hg] at h
      rw [if_pos (by simp [Region.wanted, hg])]
      exact run h
    | some jw =>
      obtain ⟨j, want⟩ := jw
      cases hb : (ops[j]?).bind (·.dst) with
      | none => simp only [trO, hg, hb] at h; exact h.elim
      | some s =>
        by_cases hs : s < N
        · simp only [trO, hg, hb, hs, if_true] at h
          have hy := act_yield (ρ := ρ) hb hs
          have hwant : Region.wanted o (yielded ops (act N ρ).tmps) = (boolOf (ρ s) == some want) := by
            simp only [Region.wanted, hg, hy]
          rw [hwant]
          have hskip : vcL P (r.map (trO P N ops)) Q (upd ρ o.dst undef) w → wpListIn (fz ro) 0 P ops (lift N Q) r ((act N ρ).put o.dst undef) w := by
            intro hh
            rw [act_put _ _ _ _ hd]
            exact ih hh
          unfold grdP at h
          split at h
          · rename_i b hv
            split at h
            · rename_i hbw; subst hbw
              rw [if_pos (by simp [hv, boolOf])]
              exact run h
            · rename_i hbw
              rw [if_neg (by simp [hv, boolOf, hbw])]
              exact ⟨fun _ _ => trivial, hskip h⟩
          · rename_i hv
            rw [if_neg (by
              have : boolOf (ρ s) = none := by
                unfold boolOf
                split
                · rename_i b hb'; exact (hv b hb').elim
                · rfl
              simp [this])]
            exact ⟨fun _ _ => trivial, hskip h⟩
        · simp only [trO, hg, hb, hs, if_false] at h; exact h.elim

end
end Go.Proofs.YtpnefcapiiemdaaGreatDoor.E

/- A region whose order is open: one walk, in an order of our choice, serves every order, where a load is looked at again behind each step that may come ahead of it. Conditions: none. -/
namespace Go.Proofs.YtpnefcapiiemdaaGreatDoor.E
open Go.RowKit

/-- 0: it looks at slots alone; 1: it loads; 2: all else. -/
def cls : Ins → Nat
  | .mov _ | .pick _ _ _ | .bin _ _ _ | .sft _ _ _ | .eq _ _ _ _ | .eqi _ _ _ | .un _ _ | .build _ _ | .nck _ | .fld _ _ | .get1 _ _ | .getN _ _ _
  | .idx _ _ _ | .idxA _ _ _ _ | .ixS _ _ | .subS _ _ _ | .subL _ _ _ _ | .subA _ _ _ _ _ | .cvi _ _ | .cvSS _ | .mkf _ _ _ | .ext _ _ | .len _ _ | .min2 _ _ | .max2 _ _ => 0
  | .load _ | .loadN _ _ => 1
  | _ => 2
def argR : Arg → List Nat | .t n => [n] | .v _ => []
def optR : Option Arg → List Nat | some a => argR a | none => []
def insR : Ins → List Nat
  | .mov x | .un _ x | .load x | .loadN _ x | .box _ x | .nck x | .fld _ x | .get1 _ x | .getN _ _ x | .cvi _ x | .cvBS x | .cvSS x | .ext _ x | .len _ x => argR x
  | .pick a b c => argR a ++ argR b ++ argR c
  | .bin _ x y | .sft _ x y | .eq _ _ x y | .eqi _ x y | .store _ x y | .idx _ x y | .idxA _ _ x y | .ixS x y | .min2 x y | .max2 x y | .app _ _ x y | .cpy _ _ x y | .mks _ _ _ _ x y => argR x ++ argR y
  | .build _ ps | .bsl _ _ _ ps => ps.flatMap fun p => argR p.2.2
  | .subS x a b | .subL _ x a b | .subA _ _ x a b => argR x ++ (optR a ++ optR b)
  | .mkf _ a b => a.flatMap argR ++ b.flatMap argR
  | .call _ a => a.flatMap argR
  | .gen _ a => a.flatMap argR
  | .callv x a => argR x ++ a.flatMap argR
  | .chk x d => d :: argR x
  | .chkN _ x d => d :: argR x
  | _ => []
def stR (s : St) : List Nat := (match s.grd with | some (g, _) => [g] | none => []) ++ insR s.ins
def dstL (s : St) : List Nat := match s.dst with | some d => [d] | none => []
def aprt (s t : St) : Bool := (dstL s).all (fun d => !(stR t).elem d && !(dstL t).elem d) && (dstL t).all (fun d => !(stR s).elem d)

section
variable {P : Program} {ρ ρ' : Env} {w : World} {k : Value → World → Prop}
theorem arg_congr {a : Arg} (h : ∀ t, t ∈ argR a → ρ t = ρ' t) : a.ev ρ = a.ev ρ' := by
  cases a with
  | t n => exact h n (by simp [argR])
  | v x => rfl
theorem opt_congr {a : Option Arg} (h : ∀ t, t ∈ optR a → ρ t = ρ' t) : a.map (Arg.ev ρ) = a.map (Arg.ev ρ') := by
  cases a with
  | none => rfl
  | some a => simp only [Option.map_some]; rw [arg_congr h]
theorem args_congr {l : List Arg} (h : ∀ t, t ∈ l.flatMap argR → ρ t = ρ' t) : argsV ρ l = argsV ρ' l := by
  unfold argsV
  apply List.map_congr_left
  intro a ha
  exact arg_congr fun t ht => h t (List.mem_flatMap.2 ⟨a, ha, ht⟩)
theorem lays_congr {l : List (Nat × Nat × Arg)} (h : ∀ t, t ∈ l.flatMap (fun p => argR p.2.2) → ρ t = ρ' t) : layA ρ l = layA ρ' l := by
  unfold layA
  apply List.map_congr_left
  intro a ha
  rw [arg_congr fun t ht => h t (List.mem_flatMap.2 ⟨a, ha, ht⟩)]
theorem ins_congr {i : Ins} (h : ∀ t, t ∈ insR i → ρ t = ρ' t) : vcI P i ρ w k = vcI P i ρ' w k := by
  cases i <;> simp only [insR, List.mem_append, List.mem_cons] at h <;> simp only [vcI]
  case pick a b c => rw [arg_congr (a := a) fun t ht => h t (.inl (.inl ht)), arg_congr (a := b) fun t ht => h t (.inl (.inr ht)), arg_congr (a := c) fun t ht => h t (.inr ht)]
  case build => rw [lays_congr h]
  case bsl => rw [lays_congr h]
  case mkf a b => rw [args_congr (l := a) fun t ht => h t (.inl ht), args_congr (l := b) fun t ht => h t (.inr ht)]
  case call => rw [args_congr h]
  case gen => rw [args_congr h]
  case callv x a => rw [arg_congr (a := x) fun t ht => h t (.inl ht), args_congr (l := a) fun t ht => h t (.inr ht)]
  case subS x a b => rw [arg_congr (a := x) fun t ht => h t (.inl ht), opt_congr (a := a) fun t ht => h t (.inr (.inl ht)), opt_congr (a := b) fun t ht => h t (.inr (.inr ht))]
  case subL x a b => rw [arg_congr (a := x) fun t ht => h t (.inl ht), opt_congr (a := a) fun t ht => h t (.inr (.inl ht)), opt_congr (a := b) fun t ht => h t (.inr (.inr ht))]
  case subA x a b => rw [arg_congr (a := x) fun t ht => h t (.inl ht), opt_congr (a := a) fun t ht => h t (.inr (.inl ht)), opt_congr (a := b) fun t ht => h t (.inr (.inr ht))]
  case chk x d => rw [arg_congr (a := x) fun t ht => h t (.inr ht), h d (.inl rfl)]
  case chkN n x d => rw [arg_congr (a := x) fun t ht => h t (.inr ht), h d (.inl rfl)]
  all_goals first
    | rfl
    | (rename_i x; rw [arg_congr (a := x) h]; done)
    | (rename_i x y; rw [arg_congr (a := x) fun t ht => h t (.inl ht), arg_congr (a := y) fun t ht => h t (.inr ht)]; done)

theorem W_val {i : Ins} (hr : cls i = 0) (h : vcI P i ρ w k) : ∃ v, k v w ∧ ∀ w', vcI P i ρ w' fun u w'' => u = v ∧ w'' = w' := by
  cases i <;> simp only [cls] at hr <;> try (cases hr; done)
  case mov => exact ⟨_, h, fun n => ⟨rfl, rfl⟩⟩
  case mkf => exact ⟨_, h, fun n => ⟨rfl, rfl⟩⟩
  all_goals
    obtain ⟨v, hv, hk⟩ := seqO_ex h
    refine ⟨_, hk, fun n => ?_⟩
    show seqO _ _
    rw [hv]
    exact ⟨rfl, rfl⟩
theorem R_val {i : Ins} (hr : cls i = 1) (h : vcI P i ρ w k) : ∃ v, k v w ∧ vcI P i ρ w fun u w'' => u = v ∧ w'' = w := by
  cases i <;> simp only [cls] at hr <;> try (cases hr; done)
  all_goals
    obtain ⟨v, hv, hk⟩ := seqO_ex h
    refine ⟨_, hk, ?_⟩
    show seqO _ _
    rw [hv]
    exact ⟨rfl, rfl⟩
theorem vcI_ex {i : Ins} (h : vcI P i ρ w k) : ∃ v w', k v w' := by
  cases i
  case mov => exact ⟨_, _, h⟩
  case alloc => exact ⟨_, _, h⟩
  case box => exact ⟨_, _, h⟩
  case mkf => exact ⟨_, _, h⟩
  case mkm => exact ⟨_, _, h⟩
  case bad => exact h.elim
  case chk => exact ⟨_, _, h.2⟩
  case chkN => exact ⟨_, _, h.2⟩
  case mks e sz bytes z l c =>
    replace h : mksP e sz bytes z (l.ev ρ) (c.ev ρ) w k := h
    unfold mksP at h
    split at h
    · exact ⟨_, _, h.2.2.2.2.2.2⟩
    · exact h.elim
  case cvBS x =>
    replace h : cvBSP w (x.ev ρ) (fun v => k v w) := h
    unfold cvBSP at h
    split at h
    · exact ⟨_, _, h⟩
    · obtain ⟨l, h1, h2, h3⟩ := h; exact ⟨_, _, h3⟩
    · exact h.elim
  case call f as =>
    obtain ⟨e, w', _, ⟨v, _, hk⟩, _⟩ := h []
    exact ⟨v, w', hk⟩
  case callv x as =>
    replace h : callvP P (x.ev ρ) (argsV ρ as) w k := h
    unfold callvP at h
    split at h
    · obtain ⟨e, w', _, ⟨v, _, hk⟩, _⟩ := h.2 []
      exact ⟨v, w', hk⟩
    · obtain ⟨_, _, f, tmps, assign, body, _, h4⟩ := h
      obtain ⟨e, w', ⟨v, _, hk⟩, _⟩ := h4.2 default [] (room_wide _)
      exact ⟨v, w', hk⟩
    · exact h.elim
  case app t u x y => obtain ⟨v, w', h1, h2⟩ := h; exact ⟨v, w', h2⟩
  case cpy t u x y => obtain ⟨v, w', h1, h2⟩ := h; exact ⟨v, w', h2⟩
  case gen kd xs => obtain ⟨v, w', h1, h2⟩ := h; exact ⟨v, w', h2⟩
  all_goals (obtain ⟨v, hv, hk⟩ := seqO_ex h; exact ⟨_, _, hk⟩)

/-! ### One operation, its guard with it -/
def opS (P : Program) (s : St) (k : Value → World → Prop) (ρ : Env) (w : World) : Prop :=
  match s.grd with
  | none => vcI P s.ins ρ w k
  | some (g, b) => grdP (ρ g) b (vcI P s.ins ρ w k) (k undef w)
theorem vcL_cons (s : St) (r : List St) (Q : Post) : vcL P (s :: r) Q ρ w = opS P s (fun v w' => vcL P r Q (upd ρ s.dst v) w') ρ w := by
  simp only [vcL, opS]
  all_goals (cases s.grd <;> rfl)
theorem opS_mono {s : St} {k k' : Value → World → Prop} (hk : ∀ v w, k v w → k' v w) (h : opS P s k ρ w) : opS P s k' ρ w := by
  unfold opS at *
  split at h
  · exact vcI_mono hk h
  · exact grdP_mono (vcI_mono hk) (hk _ _) h
theorem opS_congr {s : St} (h : ∀ t, t ∈ stR s → ρ t = ρ' t) : opS P s k ρ w = opS P s k ρ' w := by
  unfold opS
  unfold stR at h
  cases hg : s.grd with
  | none => exact ins_congr fun t ht => h t (by simp [hg, ht])
  | some x =>
    obtain ⟨g, b⟩ := x
    simp only
    rw [h g (by simp [hg]), ins_congr (i := s.ins) fun t ht => h t (by simp [hg, ht])]
/-- Either the operation is carried out, in whatever world, or it is passed over, in whatever world. -/
theorem opS_ways (s : St) (ρ : Env) : (∀ w k, opS P s k ρ w = vcI P s.ins ρ w k) ∨ (∀ w k, opS P s k ρ w = k undef w) := by
  unfold opS
  cases hg : s.grd with
  | none => exact .inl fun _ _ => rfl
  | some x =>
    obtain ⟨g, b⟩ := x
    simp only
    unfold grdP
    split
    · split
      · exact .inl fun _ _ => rfl
      · exact .inr fun _ _ => rfl
    · exact .inr fun _ _ => rfl
theorem opW_val {s : St} (hr : cls s.ins = 0) (h : opS P s k ρ w) : ∃ v, k v w ∧ ∀ w', opS P s (fun u w'' => u = v ∧ w'' = w') ρ w' := by
  rcases opS_ways (P := P) s ρ with hw | hw
  · rw [hw] at h
    obtain ⟨v, h1, h2⟩ := W_val hr h
    exact ⟨v, h1, fun w' => by rw [hw]; exact h2 w'⟩
  · rw [hw] at h
    exact ⟨undef, h, fun w' => by rw [hw]; exact ⟨rfl, rfl⟩⟩
theorem opR_val {s : St} (hr : cls s.ins = 1) (h : opS P s k ρ w) : ∃ v, k v w ∧ opS P s (fun u w'' => u = v ∧ w'' = w) ρ w := by
  rcases opS_ways (P := P) s ρ with hw | hw
  · rw [hw] at h
    obtain ⟨v, h1, h2⟩ := R_val hr h
    exact ⟨v, h1, by rw [hw]; exact h2⟩
  · rw [hw] at h
    exact ⟨undef, h, by rw [hw]; exact ⟨rfl, rfl⟩⟩
theorem opS_ex {s : St} (h : opS P s k ρ w) : ∃ v w', k v w' := by
  rcases opS_ways (P := P) s ρ with hw | hw
  · rw [hw] at h; exact vcI_ex h
  · rw [hw] at h; exact ⟨_, _, h⟩
theorem opS_of {s : St} {v : Value} (h : opS P s (fun u w'' => u = v ∧ w'' = w) ρ w) (hk : k v w) : opS P s k ρ w := opS_mono (fun u w'' ⟨h1, h2⟩ => by subst h1; subst h2; exact hk) h
end

/-! ### Any order -/
/-- Is operation i surely carried out ahead of j? (n: how far is looked) -/
def reach (ops : Array Oper) : Nat → Nat → Nat → Bool
  | 0, _, _ => false
  | n + 1, j, i => match ops[j]? with
    | some o => o.after.any fun e => Region.binds .any e && (e.on == i || (Nat.blt i e.on && reach ops n e.on i))
    | none => false
def fuel : Nat := 8
/-- May i be taken ahead of j, though j might come first? -/
def okp (ops : Array Oper) (i j : Nat) (s t : St) : Bool :=
  aprt s t && (cls s.ins == 0 || cls t.ins == 0 || (cls s.ins == 1 && (cls t.ins == 1 || !reach ops fuel j i)))

section
variable {P : Program} {N : Nat} {ops : Array Oper} {sts : List St}
abbrev Hold := Nat → World → Prop
def setH (H : Hold) (i : Nat) (p : World → Prop) : Hold := fun r => if r = i then p else H r
/-- Operation i comes up: a load is held; behind all that is no load and looks at more than slots, what is held and was not surely ahead is the same. -/
def stepE (P : Program) (ops : Array Oper) (sts : List St) (i : Nat) (K : Env → World → Hold → Prop) (ρ : Env) (w : World) (H : Hold) : Prop :=
  match sts[i]? with
  | none => K ρ w H
  | some s =>
    opS P s (fun v w' => (cls s.ins = 2 → ∀ r, reach ops fuel i r = false → H r w') ∧
      K (upd ρ s.dst v) w' (if cls s.ins = 1 then setH H i (fun w'' => opS P s (fun u w3 => u = v ∧ w3 = w'') ρ w'') else H)) ρ w
def vcAny (P : Program) (ops : Array Oper) (sts : List St) (Kf : Env → World → Prop) : Nat → Array Bool → Env → World → Hold → Prop
  | 0, listed, ρ, w, _ => Region.ready .any ops listed = [] ∧ Kf ρ w
  | n + 1, listed, ρ, w, H => (Region.ready .any ops listed = [] → Kf ρ w) ∧ ∀ i ∈ Region.ready .any ops listed, stepE P ops sts i (vcAny P ops sts Kf n (listed.setIfInBounds i true)) ρ w H

theorem stepE_mono {i : Nat} {K K' : Env → World → Hold → Prop} {ρ : Env} {w : World} {H : Hold} (hk : ∀ ρ w H, K ρ w H → K' ρ w H) (h : stepE P ops sts i K ρ w H) : stepE P ops sts i K' ρ w H := by
  unfold stepE at *
  split at h
  · exact hk _ _ _ h
  · exact opS_mono (fun v w' ⟨h1, h2⟩ => ⟨h1, hk _ _ _ h2⟩) h
theorem stepE_ex {i : Nat} {K : Env → World → Hold → Prop} {ρ : Env} {w : World} {H : Hold} (h : stepE P ops sts i K ρ w H) : ∃ ρ w H, K ρ w H := by
  unfold stepE at h
  split at h
  · exact ⟨_, _, _, h⟩
  · obtain ⟨v, w', _, h2⟩ := opS_ex h
    exact ⟨_, _, _, h2⟩

theorem upd_comm {ρ : Env} {s t : St} (h : ∀ d, d ∈ dstL s → d ∉ dstL t) (u v : Value) : upd (upd ρ s.dst u) t.dst v = upd (upd ρ t.dst v) s.dst u := by
  unfold dstL at h
  cases hs : s.dst with
  | none => rfl
  | some d =>
    cases ht : t.dst with
    | none => rfl
    | some e =>
      rw [hs, ht] at h
      have hne : d ≠ e := fun he => h d (by simp) (by simp [he])
      funext i
      simp only [upd, up]
      by_cases h1 : i = e
      · have h2 : i ≠ d := fun he => hne (he.symm.trans h1)
        simp [h1, Ne.symm hne]
      · simp [h1]
theorem upd_off {ρ : Env} {s t : St} (h : ∀ d, d ∈ dstL s → d ∉ stR t) (v : Value) : ∀ x, x ∈ stR t → upd ρ s.dst v x = ρ x := by
  intro x hx
  unfold dstL at h
  cases hs : s.dst with
  | none => rfl
  | some d =>
    rw [hs] at h
    have : x ≠ d := fun he => h d (by simp) (he ▸ hx)
    simp [upd, up, this]
theorem aprt_spec {s t : St} (h : aprt s t = true) : (∀ d, d ∈ dstL s → d ∉ stR t) ∧ (∀ d, d ∈ dstL s → d ∉ dstL t) ∧ (∀ d, d ∈ dstL t → d ∉ stR s) := by
  simp only [aprt, Bool.and_eq_true, List.all_eq_true] at h
  obtain ⟨h1, h2⟩ := h
  refine ⟨fun d hd hm => ?_, fun d hd hm => ?_, fun d hd hm => ?_⟩
  · have := (h1 d hd).1; simp [hm] at this
  · have := (h1 d hd).2; simp [hm] at this
  · have := h2 d hd; simp [hm] at this
theorem setH_comm {H : Hold} {i j : Nat} (h : i ≠ j) (p q : World → Prop) : setH (setH H i p) j q = setH (setH H j q) i p := by
  funext r
  unfold setH
  by_cases h1 : r = j
  · have : r ≠ i := fun he => h (he.symm.trans h1)
    simp [h1, Ne.symm h]
  · simp [h1]

theorem ins_det {i : Ins} (hc : cls i ≠ 2) {ρ : Env} {w : World} {a b : Value} (ha : vcI P i ρ w fun u w'' => u = a ∧ w'' = w) (hb : vcI P i ρ w fun u w'' => u = b ∧ w'' = w) : a = b := by
  cases i <;> simp only [cls, ne_eq, not_true] at hc
  case mov => exact ha.1.symm.trans hb.1
  case mkf => exact ha.1.symm.trans hb.1
  all_goals
    obtain ⟨p, hp, hpa, _⟩ := seqO_ex ha
    obtain ⟨q, hq, hqb, _⟩ := seqO_ex hb
    rw [hp] at hq
    injection hq with hq
    subst hq
    exact hpa.symm.trans hqb
theorem op_det {s : St} (hc : cls s.ins ≠ 2) {ρ : Env} {w : World} {a b : Value} (ha : opS P s (fun u w'' => u = a ∧ w'' = w) ρ w) (hb : opS P s (fun u w'' => u = b ∧ w'' = w) ρ w) : a = b := by
  rcases opS_ways (P := P) s ρ with hw | hw
  · rw [hw] at ha hb; exact ins_det hc ha hb
  · rw [hw] at ha hb; exact ha.1.symm.trans hb.1

theorem comm {i j : Nat} (hij : i ≠ j) {s t : St} (hs : sts[i]? = some s) (ht : sts[j]? = some t) (hok : okp ops i j s t = true) {K : Env → World → Hold → Prop} {ρ : Env} {w : World} {H : Hold} (hHi : ∀ w, H i w)
    (h : stepE P ops sts i (stepE P ops sts j K) ρ w H) : stepE P ops sts j (stepE P ops sts i K) ρ w H := by
  simp only [okp, Bool.and_eq_true, Bool.or_eq_true, beq_iff_eq, Bool.not_eq_true'] at hok
  obtain ⟨hap, hcl⟩ := hok
  obtain ⟨a1, a2, a3⟩ := aprt_spec hap
  have eT : ∀ (ρ : Env) (v : Value) (k : Value → World → Prop) (w : World), opS P t k (upd ρ s.dst v) w = opS P t k ρ w := fun ρ v k w => opS_congr (upd_off a1 v)
  have eS : ∀ (ρ : Env) (v : Value) (k : Value → World → Prop) (w : World), opS P s k (upd ρ t.dst v) w = opS P s k ρ w := fun ρ v k w => opS_congr (upd_off a3 v)
  have eU : ∀ (ρ : Env) (u v : Value), upd (upd ρ s.dst u) t.dst v = upd (upd ρ t.dst v) s.dst u := fun ρ u v => upd_comm a2 u v
  simp only [stepE, hs, ht] at h ⊢
  simp only [eT, eU] at h
  simp only [eS]
  by_cases c1 : cls s.ins = 0
  · have n1 : ¬ cls s.ins = 1 := by omega
    have n2 : ¬ cls s.ins = 2 := by omega
    simp only [n1, n2, if_false, false_implies, true_and] at h ⊢
    obtain ⟨v, hk, hv⟩ := opW_val c1 h
    exact opS_mono (fun u w' hh => ⟨hh.1, opS_of (hv w') hh.2⟩) hk
  by_cases c2 : cls t.ins = 0
  · have n1 : ¬ cls t.ins = 1 := by omega
    have n2 : ¬ cls t.ins = 2 := by omega
    simp only [n1, n2, if_false, false_implies, true_and] at h ⊢
    obtain ⟨v0, w0, _, h0⟩ := opS_ex h
    obtain ⟨v, _, hv⟩ := opW_val c2 h0
    refine opS_of (hv w) ?_
    refine opS_mono (fun u w' hh => ⟨hh.1, ?_⟩) h
    obtain ⟨v', hk, hv'⟩ := opW_val c2 hh.2
    have : v' = v := op_det (by omega) (hv' w) (hv w)
    subst this
    exact hk
  have c3 : cls s.ins = 1 := by rcases hcl with (h | h) | h <;> omega
  have n2 : ¬ cls s.ins = 2 := by omega
  simp only [c3, if_true, n2, false_implies, true_and, show ¬ (1 : Nat) = 2 from by omega] at h ⊢
  obtain ⟨v, hk, hv⟩ := opR_val c3 h
  by_cases c4 : cls t.ins = 1
  · have m2 : ¬ cls t.ins = 2 := by omega
    simp only [c4, if_true, m2, false_implies, true_and, show ¬ (1 : Nat) = 2 from by omega] at hk ⊢
    obtain ⟨u, hk2, hu⟩ := opR_val c4 hk
    refine opS_of hu (opS_of hv ?_)
    rw [setH_comm hij] at hk2
    exact hk2
  · have c5 : reach ops fuel j i = false := by rcases hcl with (h | h) | ⟨_, h | h⟩ <;> first | omega | exact h
    simp only [c4, if_false] at hk ⊢
    refine opS_mono (fun u w' hh => ⟨fun h2 r hr => ?_, ?_⟩) hk
    · by_cases hri : r = i
      · subst hri; exact hHi w'
      · have := hh.1 h2 r hr
        simpa [setH, hri] using this
    · by_cases h2 : cls t.ins = 2
      · have hp := hh.1 h2 i c5
        simp only [setH, if_true] at hp
        exact opS_of hp hh.2
      · have : cls t.ins = 0 ∨ cls t.ins = 1 ∨ cls t.ins = 2 := by cases t.ins <;> simp [cls]
        omega

def closed (ops : Array Oper) (listed : Array Bool) : Prop := ∀ m o, ops[m]? = some o → listed.getD m false = true → ∀ e ∈ o.after, Region.binds .any e = true → listed.getD e.on false = true
theorem reach_listed {listed : Array Bool} (hc : closed ops listed) : ∀ (n m i : Nat) (o : Oper), ops[m]? = some o → (∀ e ∈ o.after, Region.binds .any e = true → listed.getD e.on false = true) → reach ops n m i = true → listed.getD i false = true
  | 0, _, _, _, _, _, h => by cases h
  | n + 1, m, i, o, ho, he, h => by
    simp only [reach, ho, Array.any_eq_true] at h
    obtain ⟨x, hx, h⟩ := h
    simp only [Bool.and_eq_true, Bool.or_eq_true, beq_iff_eq] at h
    obtain ⟨hb, h⟩ := h
    have hl := he _ (Array.getElem_mem hx) hb
    rcases h with h | ⟨_, h⟩
    · rw [← h]; exact hl
    · cases ho' : ops[o.after[x].on]? with
      | none => 
        cases n with
        | zero => cases h
        | succ n => simp [reach, ho'] at h
      | some o' => exact reach_listed hc n _ i o' ho' (fun e hee hbb => hc _ o' ho' hl e hee hbb) h
theorem closed_set {listed : Array Bool} {j : Nat} (hc : closed ops listed) (hj : j ∈ Region.ready .any ops listed) : closed ops (listed.setIfInBounds j true) := by
  intro m o ho hm e he hb
  obtain ⟨h0, oj, hoj, hall⟩ := mem_ready.1 hj
  have mono : ∀ x, listed.getD x false = true → (listed.setIfInBounds j true).getD x false = true := fun x hx => getD_set_true hx
  by_cases hmj : m = j
  · subst hmj
    rw [hoj] at ho
    injection ho with ho
    subst ho
    exact mono _ (hall e he hb)
  · refine mono _ (hc m o ho ?_ e he hb)
    rwa [getD_set_ne false (Ne.symm hmj)] at hm
theorem getD_false {listed : Array Bool} {j : Nat} (h : listed.getD j true = false) : listed.getD j false = false := by
  rcases Nat.lt_or_ge j listed.size with h' | h'
  · simp [h'] at h ⊢; exact h
  · simp [Array.getElem?_eq_none h'] at h ⊢
theorem stepE_monoH {i : Nat} {K K' : Env → World → Hold → Prop} {ρ : Env} {w : World} {H : Hold} (hk : ∀ ρ w H', (∀ r, r ≠ i → H' r = H r) → K ρ w H' → K' ρ w H') (h : stepE P ops sts i K ρ w H) : stepE P ops sts i K' ρ w H := by
  unfold stepE at *
  split at h
  · exact hk _ _ _ (fun _ _ => rfl) h
  · refine opS_mono (fun v w' ⟨h1, h2⟩ => ⟨h1, hk _ _ _ (fun r hr => ?_) h2⟩) h
    split
    · simp [setH, hr]
    · rfl

theorem any_first {Kf : Env → World → Prop} {i : Nat} {s : St} (hs : sts[i]? = some s) (hlen : ∀ (j : Nat) (o : Oper), ops[j]? = some o → ∃ t, sts[j]? = some t) : ∀ (n : Nat) (listed : Array Bool) (ρ : Env) (w : World) (H : Hold),
    closed ops listed → (∀ r, listed.getD r true = false → ∀ w, H r w) → (∀ j t, sts[j]? = some t → j ≠ i → listed.getD j true = false → okp ops i j s t = true ∨ reach ops fuel j i = true) →
    i ∈ Region.ready .any ops listed → stepE P ops sts i (vcAny P ops sts Kf n (listed.setIfInBounds i true)) ρ w H → vcAny P ops sts Kf (n + 1) listed ρ w H := by
  intro n
  induction n with
  | zero =>
    intro listed ρ w H hc hH hfree hr h
    refine ⟨fun he => (by rw [he] at hr; cases hr), fun j hj => ?_⟩
    by_cases hji : j = i
    · subst hji; exact h
    · obtain ⟨_, _, _, h0⟩ := stepE_ex h
      have := ready_mono hj hji
      rw [h0.1] at this
      cases this
  | succ n ih =>
    intro listed ρ w H hc hH hfree hr h
    refine ⟨fun he => (by rw [he] at hr; cases hr), fun j hj => ?_⟩
    by_cases hji : j = i
    · subst hji; exact h
    · obtain ⟨hju, oj, hoj, hall⟩ := mem_ready.1 hj
      obtain ⟨hiu, _⟩ := mem_ready.1 hr
      obtain ⟨t, ht⟩ := hlen j oj hoj
      have hok : okp ops i j s t = true := by
        rcases hfree j t ht hji hju with h1 | h1
        · exact h1
        · have := reach_listed hc fuel j i oj hoj hall h1
          rw [getD_false hiu] at this
          cases this
      have h1 : stepE P ops sts i (stepE P ops sts j (vcAny P ops sts Kf n ((listed.setIfInBounds i true).setIfInBounds j true))) ρ w H :=
        stepE_mono (fun ρ w H hh => hh.2 j (ready_mono hj hji)) h
      have h2 := comm (Ne.symm hji) hs ht hok (hH i hiu) h1
      refine stepE_monoH (fun ρ' w' H' hH' hh => ?_) h2
      refine ih (listed.setIfInBounds j true) ρ' w' H' (closed_set hc hj) ?_ ?_ (ready_mono hr (Ne.symm hji)) ?_
      · intro r hr'
        have hrj : r ≠ j := by
          intro he
          subst he
          have hlt : r < listed.size := by
            rcases Nat.lt_or_ge r listed.size with h' | h'
            · exact h'
            · simp [Array.getElem?_eq_none h'] at hju
          simp [hlt] at hr'
        rw [hH' r hrj]
        rw [getD_set_ne true (Ne.symm hrj)] at hr'
        exact hH r hr'
      · intro k u hu hki hun
        refine hfree k u hu hki ?_
        by_cases hjk : j = k
        · subst hjk; exact hju
        · rwa [getD_set_ne true hjk] at hun
      · rw [Array.setIfInBounds_comm _ _ hji]
        exact hh

/-! ### Orders of our choice -/
inductive Pl where
  | done | go (i : Nat) (p : Pl) | both (i : Nat) (p q : Pl)
def Pl.siz : Pl → Nat | .done => 0 | .go _ p => p.siz + 1 | .both _ p _ => p.siz + 1
def vcPl (P : Program) (ops : Array Oper) (sts : List St) (Kf : Env → World → Prop) : Pl → Env → World → Hold → Prop
  | .done, ρ, w, _ => Kf ρ w
  | .go i p, ρ, w, H => stepE P ops sts i (vcPl P ops sts Kf p) ρ w H
  | .both i p q, ρ, w, H => stepE P ops sts i (vcPl P ops sts Kf p) ρ w H ∧ vcPl P ops sts Kf q ρ w H
def freeB (ops : Array Oper) (sts : List St) (listed : Array Bool) (i : Nat) : Bool :=
  (List.range ops.size).all fun j => j == i || listed.getD j true || (match sts[i]?, sts[j]? with | some s, some t => okp ops i j s t || reach ops fuel j i | _, _ => false)
def canB (ops : Array Oper) (sts : List St) : Array Bool → List Nat → Pl → Bool
  | listed, skip, .done => skip.isEmpty && (Region.ready .any ops listed).isEmpty
  | listed, skip, .go i p => (Region.ready .any ops listed).contains i && (if skip.isEmpty then freeB ops sts listed i else (Region.ready .any ops listed).all fun j => skip.contains j || j == i) && canB ops sts (listed.setIfInBounds i true) [] p
  | listed, skip, .both i p q => (Region.ready .any ops listed).contains i && canB ops sts (listed.setIfInBounds i true) [] p && canB ops sts listed (i :: skip) q && q.siz == p.siz + 1

theorem in_bounds {listed : Array Bool} {i : Nat} (h : listed.getD i true = false) : i < listed.size := by
  rcases Nat.lt_or_ge i listed.size with h' | h'
  · exact h'
  · simp [Array.getElem?_eq_none h'] at h
theorem free_set {listed : Array Bool} {i : Nat} {H H' : Hold} (hiu : listed.getD i true = false) (hH : ∀ r, listed.getD r true = false → ∀ w, H r w) (hH' : ∀ r, r ≠ i → H' r = H r) : ∀ r, (listed.setIfInBounds i true).getD r true = false → ∀ w, H' r w := by
  intro x hx
  have hxi : x ≠ i := by
    intro he
    subst he
    have hlt := in_bounds hiu
    simp [hlt] at hx
  rw [hH' x hxi]
  rw [getD_set_ne true (Ne.symm hxi)] at hx
  exact hH x hx

theorem any_plan {Kf : Env → World → Prop} (hlen : ∀ (j : Nat) (o : Oper), ops[j]? = some o → ∃ t, sts[j]? = some t) (hlen' : ∀ (j : Nat) (t : St), sts[j]? = some t → j < ops.size) : ∀ (p : Pl) (listed : Array Bool) (skip : List Nat) (ρ : Env) (w : World) (H : Hold),
    closed ops listed → (∀ r, listed.getD r true = false → ∀ w, H r w) → canB ops sts listed skip p = true → vcPl P ops sts Kf p ρ w H →
    (skip = [] → vcAny P ops sts Kf p.siz listed ρ w H) ∧ (skip ≠ [] → 1 ≤ p.siz ∧ ∀ j ∈ Region.ready .any ops listed, j ∉ skip → stepE P ops sts j (vcAny P ops sts Kf (p.siz - 1) (listed.setIfInBounds j true)) ρ w H)
  | .done, listed, skip, ρ, w, H, _, _, hb, h => by
    simp only [canB, Bool.and_eq_true, List.isEmpty_iff] at hb
    exact ⟨fun _ => ⟨hb.2, h⟩, fun hn => (hn hb.1).elim⟩
  | .go i p, listed, skip, ρ, w, H, hc, hH, hb, h => by
    simp only [canB, Bool.and_eq_true] at hb
    obtain ⟨⟨h1, h2⟩, h3⟩ := hb
    have hr : i ∈ Region.ready .any ops listed := by simpa using h1
    obtain ⟨hiu, oi, hoi, _⟩ := mem_ready.1 hr
    obtain ⟨s, hs⟩ := hlen i oi hoi
    have step : stepE P ops sts i (vcAny P ops sts Kf p.siz (listed.setIfInBounds i true)) ρ w H :=
      stepE_monoH (fun ρ' w' H' hH' hh => (any_plan hlen hlen' p _ [] ρ' w' H' (closed_set hc hr) (free_set hiu hH hH') h3 hh).1 rfl) h
    refine ⟨fun he => ?_, fun hn => ⟨by simp [Pl.siz], fun j hj hjs => ?_⟩⟩
    · subst he
      simp only [List.isEmpty_nil, if_true] at h2
      refine any_first hs hlen p.siz listed ρ w H hc hH ?_ hr step
      intro j t ht hji hun
      have := List.all_eq_true.1 h2 j (List.mem_range.2 (hlen' j t ht))
      simp only [hs, ht, hun, Bool.or_eq_true, beq_iff_eq, hji, false_or, Bool.false_eq_true] at this
      exact this
    · have hne : skip.isEmpty = false := by cases skip with | nil => exact (hn rfl).elim | cons => rfl
      rw [hne] at h2
      simp only [Bool.false_eq_true, if_false, List.all_eq_true] at h2
      have := h2 j hj
      simp only [Bool.or_eq_true, beq_iff_eq, List.contains_iff_mem, hjs, false_or] at this
      subst this
      exact step
  | .both i p q, listed, skip, ρ, w, H, hc, hH, hb, h => by
    simp only [canB, Bool.and_eq_true, beq_iff_eq] at hb
    obtain ⟨⟨⟨h1, h2⟩, h3⟩, h4⟩ := hb
    have hr : i ∈ Region.ready .any ops listed := by simpa using h1
    obtain ⟨hiu, oi, hoi, _⟩ := mem_ready.1 hr
    have step : stepE P ops sts i (vcAny P ops sts Kf p.siz (listed.setIfInBounds i true)) ρ w H :=
      stepE_monoH (fun ρ' w' H' hH' hh => (any_plan hlen hlen' p _ [] ρ' w' H' (closed_set hc hr) (free_set hiu hH hH') h2 hh).1 rfl) h.1
    have rest := (any_plan hlen hlen' q listed (i :: skip) ρ w H hc hH h3 h.2).2 (by simp)
    have hq : q.siz - 1 = p.siz := by omega
    rw [hq] at rest
    have all : ∀ j ∈ Region.ready .any ops listed, j ∉ skip → stepE P ops sts j (vcAny P ops sts Kf p.siz (listed.setIfInBounds j true)) ρ w H := by
      intro j hj hjs
      by_cases hji : j = i
      · subst hji; exact step
      · exact rest.2 j hj (by simp [hji, hjs])
    refine ⟨fun he => ?_, fun hn => ⟨by simp [Pl.siz], all⟩⟩
    subst he
    exact ⟨fun he => (by rw [he] at hr; cases hr), fun j hj => all j hj (by simp)⟩

/-! ### What is walked: a load is looked at again behind what might come ahead of it -/
inductive D where
  | ops (l : List St) | alt (l : List St) (a b : D)
def vcD (P : Program) : D → Post → Env → World → Prop
  | .ops l, Q, ρ, w => vcL P l Q ρ w
  | .alt l a b, Q, ρ, w => vcL P l (fun _ ρ w => vcD P a Q ρ w ∧ vcD P b Q ρ w) ρ w
def D.pre (l : List St) : D → D
  | .ops r => .ops (l ++ r)
  | .alt r a b => .alt (l ++ r) a b
theorem vcL_append (l r : List St) (Q : Post) : ∀ (ρ : Env) (w : World), vcL P (l ++ r) Q ρ w = vcL P l (fun _ ρ w => vcL P r Q ρ w) ρ w := by
  induction l with
  | nil => intro ρ w; rfl
  | cons s l ih =>
    intro ρ w
    rw [List.cons_append, vcL_cons, vcL_cons]
    simp only [ih]
theorem vcD_pre (l : List St) (Q : Post) (ρ : Env) (w : World) : ∀ d, vcD P (D.pre l d) Q ρ w = vcL P l (fun _ ρ w => vcD P d Q ρ w) ρ w
  | .ops r => vcL_append l r Q ρ w
  | .alt r a b => vcL_append l r _ ρ w
def chkOf (t : St) : Option St :=
  match t.dst, t.ins with
  | some d, .load x => some ⟨none, t.grd, .chk x d⟩
  | some d, .loadN n x => some ⟨none, t.grd, .chkN n x d⟩
  | _, _ => none
def chks (ops : Array Oper) (sts : List St) (i : Nat) : List Nat → List St
  | [] => []
  | r :: rest => match (sts[r]?).bind chkOf with
    | some c => if reach ops fuel i r then chks ops sts i rest else c :: chks ops sts i rest
    | none => chks ops sts i rest
/-- Is what the loads yielded left as it was by operation s? -/
def okD (sts : List St) (prev : List Nat) (s : St) : Bool :=
  prev.all (fun r => match (sts[r]?).bind chkOf with | some c => (dstL s).all fun d => !(stR c).elem d | none => true) &&
  (if cls s.ins = 1 then (chkOf s).isSome && (dstL s).all fun d => !(stR s).elem d else true)
def stepD (ops : Array Oper) (sts : List St) (prev : List Nat) (i : Nat) (r : Option D) : Option D :=
  (sts[i]?).bind fun s => if okD sts prev s then r.map (D.pre (s :: (if cls s.ins = 2 then chks ops sts i prev else []))) else none
def build (ops : Array Oper) (sts : List St) : List Nat → Pl → Option D
  | _, .done => some (.ops [])
  | prev, .go i p => stepD ops sts prev i (build ops sts (i :: prev) p)
  | prev, .both i p q => (stepD ops sts prev i (build ops sts (i :: prev) p)).bind fun a => (build ops sts prev q).map fun b => .alt [] a b

abbrev tru : Value → World → Prop := fun _ _ => True
def Inv (P : Program) (sts : List St) (prev : List Nat) (H : Hold) (ρ : Env) : Prop :=
  ∀ r, (∀ w, H r w) ∨ (r ∈ prev ∧ ∃ c, (sts[r]?).bind chkOf = some c ∧ ∀ w, opS P c tru ρ w → H r w)
theorem chks_run {i : Nat} {l : List St} {Q : Post} {ρ : Env} {w : World} : ∀ {prev : List Nat}, vcL P (chks ops sts i prev ++ l) Q ρ w → (∀ r c, r ∈ prev → (sts[r]?).bind chkOf = some c → reach ops fuel i r = false → opS P c tru ρ w) ∧ vcL P l Q ρ w
  | [], h => ⟨fun _ _ hr => (by cases hr), h⟩
  | x :: rest, h => by
    unfold chks at h
    split at h
    · rename_i c hc
      split at h
      · rename_i hre
        obtain ⟨h1, h2⟩ := chks_run h
        refine ⟨fun r c' hr hc' hf => ?_, h2⟩
        rcases List.mem_cons.1 hr with rfl | hr
        · rw [hre] at hf; cases hf
        · exact h1 r c' hr hc' hf
      · rename_i hre
        rw [List.cons_append, vcL_cons] at h
        have hd : c.dst = none ∧ ∀ k, opS P c k ρ w → opS P c tru ρ w ∧ k undef w := by
          obtain ⟨s, hs, hcs⟩ := Option.bind_eq_some_iff.1 hc
          have hins : (∃ y d, c = ⟨none, s.grd, .chk y d⟩) ∨ (∃ n y d, c = ⟨none, s.grd, .chkN n y d⟩) := by
            unfold chkOf at hcs
            split at hcs
            · injection hcs with hcs; exact .inl ⟨_, _, hcs.symm⟩
            · injection hcs with hcs; exact .inr ⟨_, _, _, hcs.symm⟩
            · cases hcs
          have hi : ∀ k, vcI P c.ins ρ w k → vcI P c.ins ρ w tru ∧ k undef w := by
            intro k hh
            rcases hins with ⟨y, d, rfl⟩ | ⟨n, y, d, rfl⟩ <;> exact ⟨⟨hh.1, trivial⟩, hh.2⟩
          refine ⟨?_, fun k hh => ?_⟩
          · rcases hins with ⟨y, d, rfl⟩ | ⟨n, y, d, rfl⟩ <;> rfl
          · unfold opS at hh ⊢
            split at hh
            · rename_i hg; exact hi k hh
            · rename_i hg
              unfold grdP at hh ⊢
              split at hh
              · rename_i hv
                split at hh
                · rename_i hb; rw [if_pos hb]; exact ⟨(hi k hh).1, (hi k hh).2⟩
                · rename_i hb; rw [if_neg hb]; exact ⟨trivial, hh⟩
              · exact ⟨trivial, hh⟩
        obtain ⟨h1, h2⟩ := hd.2 _ h
        rw [hd.1] at h2
        obtain ⟨h3, h4⟩ := chks_run h2
        refine ⟨fun r c' hr hc' hf => ?_, h4⟩
        rcases List.mem_cons.1 hr with rfl | hr
        · rw [hc] at hc'; injection hc' with hc'; subst hc'; exact h1
        · exact h3 r c' hr hc' hf
    · rename_i hn
      obtain ⟨h1, h2⟩ := chks_run h
      refine ⟨fun r c' hr hc' hf => ?_, h2⟩
      rcases List.mem_cons.1 hr with rfl | hr
      · rw [hn] at hc'; cases hc'
      · exact h1 r c' hr hc' hf
theorem dst_off {s c : St} (h : (dstL s).all (fun d => !(stR c).elem d) = true) : ∀ d, d ∈ dstL s → d ∉ stR c := by
  intro d hd hm
  have := List.all_eq_true.1 h d hd
  simp [hm] at this
theorem inv_upd {prev : List Nat} {H : Hold} {ρ : Env} {s : St} {i : Nat} (hI : Inv P sts prev H ρ) (hok : okD sts prev s = true) (v : Value) : Inv P sts (i :: prev) H (upd ρ s.dst v) := by
  simp only [okD, Bool.and_eq_true] at hok
  intro r
  rcases hI r with h | ⟨hr, c, hc, h⟩
  · exact .inl h
  · refine .inr ⟨List.mem_cons_of_mem _ hr, c, hc, fun w hw => h w ?_⟩
    have := List.all_eq_true.1 hok.1 r hr
    rw [hc] at this
    rwa [opS_congr (ρ := upd ρ s.dst v) (ρ' := ρ) (upd_off (dst_off this) v)] at hw
theorem chk_hold {s c : St} {ρ : Env} {w0 w : World} {v : Value} (hc : chkOf s = some c) (hoff : (dstL s).all (fun d => !(stR s).elem d) = true) (hv : opS P s (fun u w'' => u = v ∧ w'' = w0) ρ w0)
    (hw : opS P c tru (upd ρ s.dst v) w) : opS P s (fun u w3 => u = v ∧ w3 = w) ρ w := by
  have hcong := fun k => opS_congr (P := P) (s := s) (k := k) (w := w) (upd_off (ρ := ρ) (dst_off hoff) v)
  rw [← hcong]
  have key : ∀ (d : Nat) (hd : s.dst = some d) (hg : c.grd = s.grd) (hi : vcI P c.ins (upd ρ (some d) v) w tru → vcI P s.ins (upd ρ (some d) v) w fun u w3 => u = upd ρ (some d) v d ∧ w3 = w),
      opS P s (fun u w3 => u = v ∧ w3 = w) (upd ρ s.dst v) w := by
    intro d hd hg hi
    have hvd : upd ρ (some d) v d = v := by simp [upd, up]
    rw [hvd] at hi
    rw [hd] at hw ⊢
    unfold opS at hw hv ⊢
    rw [hg] at hw
    cases hgr : s.grd with
    | none =>
      simp only [hgr] at hw ⊢
      exact hi hw
    | some gb =>
      obtain ⟨g, b⟩ := gb
      have hgv : upd ρ (some d) v g = ρ g := by
        have hne : g ≠ d := fun he => dst_off hoff d (by simp [dstL, hd]) (by simp [stR, hgr, he])
        simp [upd, up, hne]
      simp only [hgr, hgv] at hw hv ⊢
      unfold grdP at hw hv ⊢
      split
      · rename_i b' hb'
        simp only [hb'] at hw hv
        split
        · rename_i hbb; rw [if_pos hbb] at hw; exact hi hw
        · rename_i hbb; rw [if_neg hbb] at hv; exact ⟨hv.1, trivial⟩
      · rename_i hnb
        have : ∀ X : Prop, (match ρ g with | Value.bool b_1 => if b_1 = b then X else undef = v ∧ True | x => undef = v ∧ True) → undef = v := by
          intro X hx
          split at hx
          · rename_i b' hb'; exact (hnb b' hb').elim
          · exact hx.1
        exact ⟨this _ hv, trivial⟩
  obtain ⟨d, g, i⟩ := s
  unfold chkOf at hc
  split at hc
  · rename_i d' x hd hi
    injection hc with hc
    subst hc
    refine key d' hd rfl ?_
    simp only at hi
    subst hi
    intro hh
    show seqO _ _
    rw [hh.1]
    exact ⟨rfl, rfl⟩
  · rename_i d' n x hd hi
    injection hc with hc
    subst hc
    refine key d' hd rfl ?_
    simp only at hi
    subst hi
    intro hh
    show seqO _ _
    rw [hh.1]
    exact ⟨rfl, rfl⟩
  · cases hc

theorem buildD_ok {Q : Post} : ∀ (p : Pl) (prev : List Nat) (d : D) (ρ : Env) (w : World) (H : Hold), build ops sts prev p = some d → Inv P sts prev H ρ → vcD P d Q ρ w → vcPl P ops sts (fun ρ w => Q .normal ρ w) p ρ w H := by
  have one : ∀ (i : Nat) (p : Pl) (prev : List Nat) (d : D) (ρ : Env) (w : World) (H : Hold), (∀ (prev : List Nat) (d : D) (ρ : Env) (w : World) (H : Hold), build ops sts prev p = some d → Inv P sts prev H ρ → vcD P d Q ρ w → vcPl P ops sts (fun ρ w => Q .normal ρ w) p ρ w H) →
      stepD ops sts prev i (build ops sts (i :: prev) p) = some d → Inv P sts prev H ρ → vcD P d Q ρ w → stepE P ops sts i (vcPl P ops sts (fun ρ w => Q .normal ρ w) p) ρ w H := by
    intro i p prev d ρ w H ih hb hI h
    obtain ⟨s, hs, hb⟩ := Option.bind_eq_some_iff.1 hb
    split at hb
    · rename_i hok
      obtain ⟨d', hd', rfl⟩ := Option.map_eq_some_iff.1 hb
      rw [vcD_pre, vcL_cons] at h
      simp only [stepE, hs]
      by_cases c1 : cls s.ins = 1
      · have n2 : ¬ cls s.ins = 2 := by omega
        simp only [n2, if_false, vcL] at h
        simp only [c1, if_true]
        obtain ⟨v, hk, hv⟩ := opR_val c1 h
        refine opS_of hv ⟨fun h2 => (by omega), ih _ _ _ _ _ hd' ?_ hk⟩
        intro r
        by_cases hri : r = i
        · subst hri
          have hok2 := hok
          simp only [okD, Bool.and_eq_true, c1, if_true] at hok2
          obtain ⟨_, hcs, hoff⟩ := hok2
          obtain ⟨c, hc⟩ := Option.isSome_iff_exists.1 hcs
          refine .inr ⟨by simp, c, by rw [hs]; exact hc, fun w' hw' => ?_⟩
          simp only [setH, if_true]
          exact chk_hold hc hoff hv hw'
        · have := inv_upd (i := i) hI hok v r
          simpa [setH, hri] using this
      · simp only [c1, if_false]
        refine opS_mono (fun v w' hh => ?_) h
        have hI' := inv_upd (i := i) hI hok v
        by_cases c2 : cls s.ins = 2
        · simp only [c2, if_true] at hh
          have hh' : vcL P (chks ops sts i prev ++ []) (fun _ ρ w => vcD P d' Q ρ w) (upd ρ s.dst v) w' := by rw [List.append_nil]; exact hh
          obtain ⟨h1, h2⟩ := chks_run hh'
          refine ⟨fun _ r hr => ?_, ih _ _ _ _ _ hd' hI' h2⟩
          rcases hI r with h | ⟨hp, c, hc, hw⟩
          · exact h w'
          · rcases hI' r with h | ⟨_, c', hc', hw'⟩
            · exact h w'
            · exact hw' w' (by rw [hc] at hc'; injection hc' with hc'; subst hc'; exact h1 r c hp hc hr)
        · simp only [c2, if_false, vcL] at hh
          exact ⟨fun h => (c2 h).elim, ih _ _ _ _ _ hd' hI' hh⟩
    · cases hb
  intro p
  induction p with
  | done => intro prev d ρ w H hb _ h; injection hb with hb; subst hb; exact h
  | go i p ih => intro prev d ρ w H hb hI h; exact one i p prev d ρ w H ih hb hI h
  | both i p q ihp ihq =>
    intro prev d ρ w H hb hI h
    obtain ⟨a, ha, hb⟩ := Option.bind_eq_some_iff.1 hb
    obtain ⟨b, hb2, rfl⟩ := Option.map_eq_some_iff.1 hb
    exact ⟨one i p prev a ρ w H ihp ha hI h.1, ihq prev b ρ w H hb2 hI h.2⟩

/-! ### It is what the machine asks -/
theorem op_ok {ro : Option Nat} {o : Oper} {i : Nat} {Q : Post} {K : Act → World → Prop} {ρ : Env} {w : World} (hi : ops[i]? = some o) (hd : o.dst ≠ some N) (h : opS P (trO P N ops o) (fun v w' => K (act N (upd ρ o.dst v)) w') ρ w) : wpOpIn (fz ro) 0 P ops (lift N Q) i K (act N ρ) w := by
  unfold wpOpIn
  rw [hi]
  simp only
  have run : vcI P (trI P N o) ρ w (fun v w' => K (act N (upd ρ o.dst v)) w') → Oper.wpIn (fz ro) 0 P o (act N ρ) w K (lift N Q) := by
    intro hh
    refine Goes.wp (trI_nd hh) (trI_ok (vcI_mono (fun v w' hv => ?_) hh))
    rw [act_put _ _ _ _ hd]
    exact hv
  cases hg : o.guard with
  | none =>
    simp only [opS, trO, hg] at h
    rw [if_pos (by simp [Region.wanted, hg])]
    exact run h
  | some jw =>
    obtain ⟨j, want⟩ := jw
    cases hb : (ops[j]?).bind (·.dst) with
    | none => simp only [opS, trO, hg, hb] at h; exact h.elim
    | some s =>
      by_cases hs : s < N
      · simp only [opS, trO, hg, hb, hs, if_true] at h
        have hy := act_yield (ρ := ρ) hb hs
        have hwant : Region.wanted o (yielded ops (act N ρ).tmps) = (boolOf (ρ s) == some want) := by
          simp only [Region.wanted, hg, hy]
        rw [hwant]
        have hskip : K (act N (upd ρ o.dst undef)) w → K ((act N ρ).put o.dst undef) w := by
          intro hh
          rw [act_put _ _ _ _ hd]
          exact hh
        unfold grdP at h
        split at h
        · rename_i b hv
          split at h
          · rename_i hbw; subst hbw
            rw [if_pos (by simp [hv, boolOf])]
            exact run h
          · rename_i hbw
            rw [if_neg (by simp [hv, boolOf, hbw])]
            exact ⟨fun _ _ => trivial, hskip h⟩
        · rename_i hv
          rw [if_neg (by
            have : boolOf (ρ s) = none := by
              unfold boolOf
              split
              · rename_i b hb'; exact (hv b hb').elim
              · rfl
            simp [this])]
          exact ⟨fun _ _ => trivial, hskip h⟩
      · simp only [opS, trO, hg, hb, hs, if_false] at h; exact h.elim
theorem trO_dst (o : Oper) : (trO P N ops o).dst = o.dst := by
  unfold trO
  split
  · rfl
  · split
    · split <;> rfl
    · rfl
abbrev trOs (P : Program) (N : Nat) (ops : Array Oper) : List St := ops.toList.map (trO P N ops)
theorem any_ok {ro : Option Nat} {Q : Post} (hd : dOk N ops.toList = true) : ∀ (n : Nat) (listed : Array Bool) (ρ : Env) (w : World) (H : Hold), vcAny P ops (trOs P N ops) (fun ρ w => Q .normal ρ w) n listed ρ w H → wpAnyIn (fz ro) 0 P .any ops (lift N Q) n listed (act N ρ) w
  | 0, listed, ρ, w, H, h => ⟨h.1, ρ, rfl, h.2⟩
  | n + 1, listed, ρ, w, H, h => by
    refine ⟨fun he => ⟨ρ, rfl, h.1 he⟩, fun i hi => ?_⟩
    have h2 := h.2 i hi
    obtain ⟨_, o, ho, _⟩ := mem_ready.1 hi
    have hs : (trOs P N ops)[i]? = some (trO P N ops o) := by simp [trOs, ho]
    simp only [stepE, hs] at h2
    refine op_ok ho (by simpa using List.all_eq_true.1 hd o (List.mem_of_getElem? (by simpa using ho))) (opS_mono (fun v w' hh => ?_) h2)
    have := any_ok (ro := ro) (Q := Q) hd n _ _ _ _ hh.2
    rw [trO_dst] at this
    exact this

def drawD (P : Program) (N : Nat) (ops : Array Oper) (p : Pl) : Option D :=
  if P.follows .mixedOrders && (dOk N ops.toList && (p.siz == ops.size && canB ops (trOs P N ops) (Array.replicate ops.size false) [] p)) then build ops (trOs P N ops) [] p else none
theorem draw_ok {ro : Option Nat} {id : Nat} {p : Pl} {d : D} {Q : Post} {ρ : Env} {w : World} (hd : drawD P N ops p = some d) (h : vcD P d Q ρ (w.drewN 1)) : (Code.region id ops true).wpIn (fz ro) 0 P (lift N Q) (act N ρ) w := by
  unfold drawD at hd
  split at hd
  · rename_i hc
    simp only [Bool.and_eq_true, beq_iff_eq] at hc
    obtain ⟨hm, hdk, hsz, hcan⟩ := hc
    refine wpIn_region_any hm ?_
    rw [← hsz]
    have h1 := buildD_ok (Q := Q) p [] d ρ (w.drewN 1) (fun _ _ => True) hd (fun r => .inl fun _ => trivial) h
    have hlen : ∀ (j : Nat) (o : Oper), ops[j]? = some o → ∃ t, (trOs P N ops)[j]? = some t := fun j o ho => ⟨_, by simp [trOs, ho]; rfl⟩
    have hlen' : ∀ (j : Nat) (t : St), (trOs P N ops)[j]? = some t → j < ops.size := by
      intro j t ht
      rcases Nat.lt_or_ge j ops.size with h | h
      · exact h
      · have : (trOs P N ops)[j]? = none := by simp [trOs, Array.getElem?_eq_none h]
        rw [this] at ht
        cases ht
    have hcl : closed ops (Array.replicate ops.size false) := by
      intro m o _ hm
      have : (Array.replicate ops.size false).getD m false = false := by
        simp only [Array.getD_eq_getD_getElem?, Array.getElem?_replicate]
        split <;> rfl
      rw [this] at hm
      cases hm
    have h2 := (any_plan hlen hlen' p _ [] ρ (w.drewN 1) _ hcl (fun _ _ _ => trivial) hcan h1).1 rfl
    rw [hsz] at h2 ⊢
    exact any_ok hdk _ _ _ _ _ h2
  · cases hd
end
end Go.Proofs.YtpnefcapiiemdaaGreatDoor.E

/- The calculus of code: what a body asks, that it is sound, what a piece of code does not write stays; loops; functions. Conditions: none. -/
namespace Go.Proofs.YtpnefcapiiemdaaGreatDoor.E
open Go.RowKit

/-- A call that is put off, without arguments: of what. -/
def dfrX (N : Nat) (o : Oper) : Option Arg := match o.op, o.guard, o.dst with
  | .defer c, none, none => (match c.callee with | .value f => if c.args = #[] then trA N f else none | _ => none)
  | _, _, _ => none
def trOd (P : Program) (N : Nat) (ops : Array Oper) (o : Oper) : St := match dfrX N o with
  | some x => ⟨some N, none, .gen .dfr [x, .t N]⟩
  | none => trO P N ops o
def isDfr (s : St) : Bool := match s.ins with | .gen .dfr _ => true | _ => false
inductive S where
  | skip | ops (l : List St) | draw (d : D)
  | seq (a b : S) | cond (c : Arg) (a b : S) | blk (id : Nat) (a : S) | loop (a : S) | exit (id : Nat) | ret | bad
  | rng (N : Nat) (x : Arg) (ps : Array Nat) (as bd : Code) (a b : S)
/-- No range over a function is in it. -/
def noR : S → Bool
  | .seq a b => noR a && noR b
  | .cond _ a b => noR a && noR b
  | .blk _ a => noR a
  | .loop a => noR a
  | .rng .. => false
  | .ops l => l.all fun s => !isDfr s
  | _ => true
/-- In which orders are the open regions walked? -/
abbrev Hints := List (Nat × Pl)
def hintAt : Hints → Nat → Pl
  | [], _ => .done
  | (i, p) :: r, n => if i = n then p else hintAt r n
def trS (P : Program) (N : Nat) (hs : Hints) : Code → S
  | .skip => .skip
  | .region _ ops false => if dOk N ops.toList then .ops (ops.toList.map (trOd P N ops)) else .bad
  | .region id ops true => match drawD P N ops (hintAt hs id) with | some d => .draw d | none => .bad
  | .seq a b => .seq (trS P N hs a) (trS P N hs b)
  | .cond c a b => match trA N c with | some c => .cond c (trS P N hs a) (trS P N hs b) | none => .bad
  | .block id a => .blk id (trS P N hs a)
  | .loop a => .loop (trS P N hs a)
  | .exit id => .exit id
  | .ret => .ret
  | .scope a => trS P N hs a
  | .label _ => .skip
  | .rangeFunc g ps as bd => match trA N g with | some x => if ps.all (fun p => decide (p < N)) && (noR (trS P N hs as) && noR (trS P N hs bd)) then .rng N x ps as bd (trS P N hs as) (trS P N hs bd) else .bad | none => .bad
  | _ => .bad
/-- A loop's record. -/
def recL (N : Nat) (ρ : Env) (ps : Array Nat) (as bd : Code) (D fn : Nat) (st : LoopState) : Loop := { state := st, pending := none, fn := fn, tmps := (act N ρ).tmps, params := ps, assign := as, body := bd, defers := D }
/-- A range over a function: what is asked. -/
def rngP (P : Program) (N : Nat) (x : Value) (ps : Array Nat) (as bd : Code) (ρ : Env) (w : World) (k : World → Prop) : Prop :=
  match x with
  | .func (.func g) first cap => okFn P g = true ∧ ∀ fn, callP P g (first.toList ++ [.func (.yield (size w + 1)) #[] #[]] ++ cap.toList) ((w.alloc (.deferred (some []))).alloc (.loop (recL N ρ ps as bd (size w) fn .ready))) fun _ w' =>
      w'.heap[size w + 1]? = some (.loop (recL N ρ ps as bd (size w) fn .ready)) ∧ k (w'.putObj (size w + 1) (.loop (recL N ρ ps as bd (size w) fn .exhausted)))
  | _ => False
def vcS (P : Program) : S → Post → Env → World → Prop
  | .skip, Q, ρ, w => Q .normal ρ w
  | .ops l, Q, ρ, w => vcL P l Q ρ w
  | .draw d, Q, ρ, w => vcD P d Q ρ (w.drewN 1)
  | .seq a b, Q, ρ, w => vcS P a (thenQ (vcS P b Q) Q) ρ w
  | .cond c a b, Q, ρ, w => condP (c.ev ρ) (vcS P a Q ρ w) (vcS P b Q ρ w)
  | .blk id a, Q, ρ, w => vcS P a (blkQ id Q) ρ w
  | .loop a, Q, ρ, w => ∃ (I : Nat → Env → World → Prop), (∃ n, I n ρ w) ∧ ∀ n ρ w, I n ρ w → vcS P a (thenQ (fun ρ' w' => ∃ n', n' < n ∧ I n' ρ' w') Q) ρ w
  | .exit id, Q, ρ, w => Q (.exit id) ρ w
  | .ret, Q, ρ, w => Q .ret ρ w
  | .bad, _, _, _ => False
  | .rng N x ps as bd _ _, Q, ρ, w => rngP P N (x.ev ρ) ps as bd ρ w fun w' => Q .normal (up ρ N (consM (.int .i64 (size w)) (ρ N))) w'

section
variable {P : Program} {N : Nat} {hs : Hints} {ρ : Env} {w : World}
theorem vcD_mono : ∀ {d : D} {Q Q' : Post} {ρ : Env} {w : World}, (∀ e ρ w, Q e ρ w → Q' e ρ w) → vcD P d Q ρ w → vcD P d Q' ρ w
  | .ops l, _, _, _, _, hq, h => vcL_mono hq h
  | .alt l a b, Q, Q', ρ, w, hq, h => vcL_mono (Q := fun _ ρ w => vcD P a Q ρ w ∧ vcD P b Q ρ w) (Q' := fun _ ρ w => vcD P a Q' ρ w ∧ vcD P b Q' ρ w) (fun _ _ _ h => ⟨vcD_mono hq h.1, vcD_mono hq h.2⟩) h
theorem rngP_mono {x : Value} {ps : Array Nat} {as bd : Code} {k k' : World → Prop} (hk : ∀ w, k w → k' w) (h : rngP P N x ps as bd ρ w k) : rngP P N x ps as bd ρ w k' := by
  unfold rngP at *
  split at h
  · exact ⟨h.1, fun fn => Calls.mono (R := fun e w' => ∃ v, e = .returned v ∧ _) (h.2 fn) fun _ _ ⟨v, he, h1, h2⟩ => ⟨v, he, h1, hk _ h2⟩⟩
  · exact h.elim
theorem vcS_mono : ∀ {s : S} {Q Q' : Post} {ρ : Env} {w : World}, (∀ e ρ w, Q e ρ w → Q' e ρ w) → vcS P s Q ρ w → vcS P s Q' ρ w := by
  intro s
  induction s with
  | skip => intro Q Q' ρ w hq h; exact hq _ _ _ h
  | ops l => intro Q Q' ρ w hq h; exact vcL_mono hq h
  | draw d => intro Q Q' ρ w hq h; exact vcD_mono hq h
  | seq a b iha ihb => intro Q Q' ρ w hq h; exact iha (thenQ_mono (fun ρ w h => ihb hq h) hq) h
  | cond c a b iha ihb => intro Q Q' ρ w hq h; exact condP_mono (iha hq) (ihb hq) h
  | blk id a ih => intro Q Q' ρ w hq h; exact ih (blkQ_mono hq) h
  | loop a ih =>
    intro Q Q' ρ w hq h
    obtain ⟨I, h0, hr⟩ := h
    exact ⟨I, h0, fun n ρ w hi => ih (thenQ_mono (fun _ _ h => h) hq) (hr n ρ w hi)⟩
  | exit id => intro Q Q' ρ w hq h; exact hq _ _ _ h
  | ret => intro Q Q' ρ w hq h; exact hq _ _ _ h
  | bad => intro Q Q' ρ w hq h; exact h
  | rng N x ps as bd a b => intro Q Q' ρ w hq h; exact rngP_mono (fun w h => hq _ _ _ h) h

theorem lift_then {K : Env → World → Prop} {Q : Post} {X : Act → World → Prop} {Y : Exit → Act → World → Prop} (hk : ∀ ρ w, K ρ w → X (act N ρ) w) (hq : ∀ e ρ w, Q e ρ w → Y e (act N ρ) w)
    (e : Exit) (a : Act) (w : World) (h : lift N (thenQ K Q) e a w) : Exit.then X Y e a w := by
  obtain ⟨ρ, rfl, h⟩ := h
  cases e with
  | normal => exact hk _ _ h
  | _ => exact hq _ _ _ h

/-- Nothing here goes to a label. -/
def ngQ (Q : Post) : Post := fun e ρ w => match e with | .goto _ => False | e => Q e ρ w
theorem vcL_ng : ∀ {l : List St} {Q : Post} {ρ : Env} {w : World}, vcL P l Q ρ w → vcL P l (ngQ Q) ρ w
  | [], _, _, _, h => h
  | s :: r, Q, ρ, w, h => by
    simp only [vcL] at h ⊢
    split at h
    · exact vcI_mono (fun v w h => vcL_ng h) h
    · exact grdP_mono (fun h => vcI_mono (fun v w h => vcL_ng h) h) vcL_ng h
theorem vcD_ng : ∀ {d : D} {Q : Post} {ρ : Env} {w : World}, vcD P d Q ρ w → vcD P d (ngQ Q) ρ w
  | .ops l, _, _, _, h => vcL_ng h
  | .alt l a b, Q, ρ, w, h => vcL_mono (Q := fun _ ρ w => vcD P a Q ρ w ∧ vcD P b Q ρ w) (Q' := fun _ ρ w => vcD P a (ngQ Q) ρ w ∧ vcD P b (ngQ Q) ρ w) (fun _ _ _ h => ⟨vcD_ng h.1, vcD_ng h.2⟩) h
theorem vcS_ng : ∀ {s : S} {Q : Post} {ρ : Env} {w : World}, vcS P s Q ρ w → vcS P s (ngQ Q) ρ w := by
  intro s
  induction s with
  | skip => intro Q ρ w h; exact h
  | ops l => intro Q ρ w h; exact vcL_ng h
  | draw d => intro Q ρ w h; exact vcD_ng h
  | seq a b iha ihb =>
    intro Q ρ w h
    show vcS P a _ ρ w
    refine vcS_mono ?_ (iha (Q := thenQ (vcS P b (ngQ Q)) Q) (vcS_mono ?_ h))
    · intro e ρ w h; cases e <;> exact h
    · intro e ρ w h; cases e <;> first | exact ihb h | exact h
  | cond c a b iha ihb => intro Q ρ w h; exact condP_mono iha ihb h
  | blk id a ih =>
    intro Q ρ w h
    show vcS P a _ ρ w
    refine vcS_mono ?_ (ih h)
    intro e ρ w h
    cases e with
    | exit i =>
      simp only [ngQ, blkQ] at h ⊢
      split at h
      · rename_i hc; rw [if_pos hc]; exact h
      · rename_i hc; rw [if_neg hc]; exact h
    | _ => exact h
  | loop a ih =>
    intro Q ρ w h
    obtain ⟨I, h0, hr⟩ := h
    refine ⟨I, h0, fun n ρ w hi => vcS_mono ?_ (ih (hr n ρ w hi))⟩
    intro e ρ w h; cases e <;> exact h
  | exit id => intro Q ρ w h; exact h
  | ret => intro Q ρ w h; exact h
  | bad => intro Q ρ w h; exact h
  | rng N x ps as bd a b => intro Q ρ w h; exact h

theorem consM_dfrs (m v : Value) : dfrs (consM m v) = dfr1 m :: dfrs v := by
  cases v <;> simp [consM, dfrs]
theorem act_up (v : Value) : act N (up ρ N v) = { act N ρ with defers := dfrs v } := by
  simp only [act]
  congr 1
  · apply Array.ext_getElem?
    intro i
    simp only [Array.getElem?_map, Array.getElem?_range]
    by_cases h : i < N
    · have : ¬ i = N := by omega
      simp [h, up, this]
    · simp [h]
  · simp [up]
theorem vcLd_ok {ro : Option Nat} {ops : Array Oper} {Q : Post} : ∀ {l : List Oper} {ρ : Env} {w : World}, dOk N l = true → (ro = none ∨ (l.map (trOd P N ops)).all (fun s => !isDfr s) = true) → vcL P (l.map (trOd P N ops)) Q ρ w → wpListIn (fz ro) 0 P ops (lift N Q) l (act N ρ) w
  | [], ρ, w, _, _, h => ⟨ρ, rfl, h⟩
  | o :: r, ρ, w, hd, hn, h => by
    simp only [dOk, List.all_cons, Bool.and_eq_true, bne_iff_ne] at hd
    have hn2 : ro = none ∨ (r.map (trOd P N ops)).all (fun s => !isDfr s) = true := hn.imp id fun h => by
      simp only [List.map_cons, List.all_cons, Bool.and_eq_true] at h
      exact h.2
    have ih := fun {ρ w} h => @vcLd_ok ro ops Q r ρ w hd.2 hn2 h
    have hd := hd.1
    simp only [List.map_cons, vcL] at h
    unfold wpListIn
    cases hx : dfrX N o with
    | some x =>
      have hro : ro = none := by
        rcases hn with h | h
        · exact h
        · simp only [List.map_cons, List.all_cons, trOd, hx, isDfr, Bool.not_true, Bool.false_and] at h
          cases h
      subst hro
      simp only [trOd, hx] at h
      unfold dfrX at hx
      split at hx
      · rename_i c hop hg hdst
        split at hx
        · rename_i f hcal
          split at hx
          · rename_i hargs
            rw [if_pos (by simp [Region.wanted, hg])]
            replace h : genP P .dfr [x.ev ρ, ρ N] w fun v w' => vcL P (r.map (trOd P N ops)) Q (up ρ N v) w' := h
            obtain ⟨v, w', hv, hk⟩ := h
            obtain ⟨g, a, b, hxe⟩ : ∃ g a b, x.ev ρ = .func (.func g) a b := by
              cases hxe : x.ev ρ with
              | func fn a b =>
                cases fn with
                | func g => exact ⟨g, a, b, rfl⟩
                | _ => rw [hxe] at hv; simp [lkSem, stuck] at hv
              | _ => rw [hxe] at hv; simp [lkSem, stuck] at hv
            rw [hxe] at hv
            simp only [lkSem, Sem.run_pure, Result.ok.injEq] at hv
            obtain ⟨rfl, rfl⟩ := hv
            refine ⟨fun _ _ => trivial, ?_⟩
            have hres : (execOp (act N ρ).eval o).run P w = .ok (.defer { target := .fn (.func g) b, args := a }) w := by
              simp only [execOp, hop, resolve, hcal, hargs, trA_ev hx, hxe, Deferred.ofValue, Sem.run_bind, Sem.run_pure, Result.andThen_ok]
              simp
            show o.uponIn (fz none) 0 P (act N ρ) _ _ ((execOp (act N ρ).eval o).run P w)
            rw [hres, Oper.uponIn_defer, hdst]
            have e : ({ act N ρ with defers := { target := .fn (.func g) b, args := a } :: (act N ρ).defers } : Act).put none undef = act N (up ρ N (consM (.func (.func g) a b) (ρ N))) := by
              rw [act_up, consM_dfrs]
              rfl
            rw [e]
            exact ih hk
          · cases hx
        · cases hx
      · cases hx
    | none =>
      simp only [trOd, hx] at h
      have run : vcI P (trI P N o) ρ w (fun v w' => vcL P (r.map (trOd P N ops)) Q (upd ρ o.dst v) w') → Oper.wpIn (fz ro) 0 P o (act N ρ) w (wpListIn (fz ro) 0 P ops (lift N Q) r) (lift N Q) := by
        intro hh
        refine Goes.wp (trI_nd hh) (trI_ok (vcI_mono (fun v w' hv => ?_) hh))
        rw [act_put _ _ _ _ hd]
        exact ih hv
      cases hg : o.guard with
      | none =>
        simp only [trO, hg] at h
        rw [if_pos (by simp [Region.wanted, hg])]
        exact run h
      | some jw =>
        obtain ⟨j, want⟩ := jw
        cases hb : (ops[j]?).bind (·.dst) with
        | none => simp only [trO, hg, hb] at h; exact h.elim
        | some s =>
          by_cases hs : s < N
          · simp only [trO, hg, hb, hs, if_true] at h
            have hy := act_yield (ρ := ρ) hb hs
            have hwant : Region.wanted o (yielded ops (act N ρ).tmps) = (boolOf (ρ s) == some want) := by
              simp only [Region.wanted, hg, hy]
            rw [hwant]
            have hskip : vcL P (r.map (trOd P N ops)) Q (upd ρ o.dst undef) w → wpListIn (fz ro) 0 P ops (lift N Q) r ((act N ρ).put o.dst undef) w := by
              intro hh
              rw [act_put _ _ _ _ hd]
              exact ih hh
            unfold grdP at h
            split at h
            · rename_i b hv
              split at h
              · rename_i hbw; subst hbw
                rw [if_pos (by simp [hv, boolOf])]
                exact run h
              · rename_i hbw
                rw [if_neg (by simp [hv, boolOf, hbw])]
                exact ⟨fun _ _ => trivial, hskip h⟩
            · rename_i hv
              rw [if_neg (by
                have : boolOf (ρ s) = none := by
                  unfold boolOf
                  split
                  · rename_i b hb'; exact (hv b hb').elim
                  · rfl
                simp [this])]
              exact ⟨fun _ _ => trivial, hskip h⟩
          · simp only [trO, hg, hb, hs, if_false] at h; exact h.elim
theorem wpIn_scope_straight {F : Fence} {n : Nat} {c : Code} {Q : Exit → Act → World → Prop} {a : Act} (h : c.wpIn F n P (Exit.noGoto Q) a w) : (Code.scope c).wpIn F n P Q a w := by
  intro b k cs hro hb hr
  have h0 : (lone (b.atR a (.code (.scope c) :: k)) cs w).fenced P F := fenced_calm hb hr rfl
  have s1 : step P (lone (b.atR a (.code (.scope c) :: k)) cs w) = .next (lone (b.atR a (.code c :: .inScope c :: k)) cs w) := step_lone_go (by simp [stepG, stepG.exec, Frame.atR])
  obtain ⟨e, a₁, w₁, hq, harr⟩ := h b (.inScope c :: k) cs hro hb hr
  cases e with
  | normal => exact ⟨.normal, a₁, w₁, hq, .head h0 s1 (StepsIn.trans harr (.one (fenced_calm hb hr rfl) (step_lone_go (by simp [stepG, stepG.exec, Frame.atR]))))⟩
  | exit id =>
    have hx : exitTo id (.inScope c :: k) = exitTo id k := by simp [exitTo]
    exact ⟨.exit id, a₁, w₁, hq, fun k' hk => .head h0 s1 (harr.1 k' (by rw [hx]; exact hk)), fun hr' hk => let ⟨k₁, h1, h2⟩ := harr.2 hr' (by rw [hx]; exact hk); ⟨k₁, h1, .head h0 s1 h2⟩⟩
  | goto l => exact hq.elim
  | ret => exact ⟨_, a₁, w₁, hq, .of_steps (.one h0 s1) harr⟩
  | panic ch => exact ⟨_, a₁, w₁, hq, .of_steps (.one h0 s1) harr⟩
  | outgrown => exact ⟨_, a₁, w₁, hq, .of_steps (.one h0 s1) harr⟩
theorem rng_ok {g : Operand} {x : Arg} {ps : Array Nat} {as bd : Code} {Q : Post} (hx : trA N g = some x) (h : rngP P N (x.ev ρ) ps as bd ρ w fun w' => Q .normal (up ρ N (consM (.int .i64 (size w)) (ρ N))) w') : (Code.rangeFunc g ps as bd).wpIn (fz none) 0 P (lift N Q) (act N ρ) w := by
  unfold rngP at h
  split at h
  · rename_i f first cap hf
    obtain ⟨hok, h⟩ := h
    refine wpIn_rangeFunc fun fn _ => ?_
    have hcall : CallsIn (fz none) (0 - 1) P f (first.toList ++ [Value.func (.yield (size w + 1)) #[] #[]] ++ cap.toList).toArray ((w.alloc (.deferred (some []))).alloc (.loop (recL N ρ ps as bd (size w) fn .ready)))
        (rangePost (fz none) 0 P (size w + 1) (lift N Q) { act N ρ with defers := [{ target := .collected (size w), args := #[] }] ++ (act N ρ).defers }) := by
      refine fz_calls (Calls.mono (h fn) ?_)
      rintro e w' ⟨v, rfl, h1, h2⟩
      refine ⟨none, _, run_endLoop h1 (by simp [recL]), _, ?_, h2⟩
      rw [act_up, consM_dfrs]
      rfl
    have hinv : (invoke (.fn (.func f) cap) (first ++ #[Value.func (.yield (size w + 1)) #[] #[]])).run P ((w.alloc (.deferred (some []))).alloc (.loop (recL N ρ ps as bd (size w) fn .ready))) =
        .ok (.enter f (first.toList ++ [Value.func (.yield (size w + 1)) #[] #[]] ++ cap.toList).toArray) ((w.alloc (.deferred (some []))).alloc (.loop (recL N ρ ps as bd (size w) fn .ready))) := by
      simp only [invoke]
      have e2 : first ++ #[Value.func (.yield (size w + 1)) #[] #[]] ++ cap = (first.toList ++ [Value.func (.yield (size w + 1)) #[] #[]] ++ cap.toList).toArray := by
        rw [← Array.toList_inj]; simp
      rw [e2]
      exact okFn_run hok
    have hres : (resolve (act N ρ).eval (rangeCall g (size w + 1)) 0).run P ((w.alloc (.deferred (some []))).alloc (.loop (recL N ρ ps as bd (size w) fn .ready))) =
        .ok { target := .fn (.func f) cap, args := first ++ #[Value.func (.yield (size w + 1)) #[] #[]] } ((w.alloc (.deferred (some []))).alloc (.loop (recL N ρ ps as bd (size w) fn .ready))) := by
      simp only [resolve, rangeCall, trA_ev hx, hf, Deferred.ofValue, Sem.run_bind, Sem.run_pure, Result.andThen_ok]
      simp [Act.eval]
    exact ⟨size w + 1, _, _, _, _, f, _, _, run_enterLoop_outer _ _ _ _ _, hres, fun _ _ => trivial, hinv, fz_depth, hcall⟩
  · exact h.elim

theorem vcS_ok : ∀ {c : Code} {ro : Option Nat} {Q : Post} {ρ : Env} {w : World}, (ro = none ∨ noR (trS P N hs c) = true) → vcS P (trS P N hs c) Q ρ w → Code.wpIn (fz ro) 0 P c (lift N Q) (act N ρ) w := by
  intro c
  induction c with
  | skip => intro ro Q ρ w _ h; exact wpIn_skip ⟨ρ, rfl, h⟩
  | region id ops draw =>
    intro ro Q ρ w hro h
    cases draw with
    | false =>
      simp only [trS] at h
      split at h
      · rename_i hd
        refine wpIn_region_list (vcLd_ok hd (hro.imp (fun h => h) fun h => ?_) h)
        simp only [trS, hd, if_true, noR] at h
        exact h
      · exact h.elim
    | true =>
      simp only [trS] at h
      split at h
      · rename_i d hd
        exact draw_ok hd h
      · exact h.elim
  | seq a b iha ihb =>
    intro ro Q ρ w hro h
    have h1 : ro = none ∨ noR (trS P N hs a) = true := hro.imp id fun h => by simp only [trS, noR, Bool.and_eq_true] at h; exact h.1
    have h2 : ro = none ∨ noR (trS P N hs b) = true := hro.imp id fun h => by simp only [trS, noR, Bool.and_eq_true] at h; exact h.2
    refine wpIn_seq (wpIn_mono (iha h1 h) ?_)
    exact lift_then (fun ρ w h => ihb h2 h) (fun e ρ w h => ⟨ρ, rfl, h⟩)
  | cond c a b iha ihb =>
    intro ro Q ρ w hro h
    simp only [trS] at h
    split at h
    · rename_i x hx
      have h1 : ro = none ∨ noR (trS P N hs a) = true := hro.imp id fun h => by simp only [trS, hx, noR, Bool.and_eq_true] at h; exact h.1
      have h2 : ro = none ∨ noR (trS P N hs b) = true := hro.imp id fun h => by simp only [trS, hx, noR, Bool.and_eq_true] at h; exact h.2
      replace h : condP (x.ev ρ) (vcS P (trS P N hs a) Q ρ w) (vcS P (trS P N hs b) Q ρ w) := h
      unfold condP at h
      split at h
      · rename_i hv; exact wpIn_cond_true (by rw [trA_ev hx, hv]) (iha h1 h)
      · rename_i hv; exact wpIn_cond_false (by rw [trA_ev hx, hv]) (ihb h2 h)
      · exact h.elim
    · exact h.elim
  | block id a ih =>
    intro ro Q ρ w hro h
    refine wpIn_block (wpIn_mono (ih (hro.imp (fun h => h) fun h => by simpa only [trS, noR] using h) h) ?_)
    rintro e _ w' ⟨ρ', rfl, hq⟩
    cases e with
    | exit i =>
      simp only [blkQ, Exit.inBlock] at hq ⊢
      split at hq
      · rename_i hc; rw [if_pos hc]; exact ⟨ρ', rfl, hq⟩
      · rename_i hc; rw [if_neg hc]; exact ⟨ρ', rfl, hq⟩
    | _ => exact ⟨ρ', rfl, hq⟩
  | loop a ih =>
    intro ro Q ρ w hro h
    obtain ⟨I, ⟨n0, h0⟩, hr⟩ := h
    refine wpIn_loop_ghost (fun n a w => ∃ ρ, a = act N ρ ∧ I n ρ w) n0 ⟨ρ, rfl, h0⟩ ?_
    rintro n _ w ⟨ρ, rfl, hi⟩
    refine wpIn_mono (ih (hro.imp (fun h => h) fun h => by simpa only [trS, noR] using h) (hr n ρ w hi)) ?_
    exact lift_then (fun ρ' w' ⟨n', hn, h⟩ => ⟨n', hn, ρ', rfl, h⟩) (fun e ρ' w' h => ⟨ρ', rfl, h⟩)
  | exit id => intro ro Q ρ w _ h; exact wpIn_exit ⟨ρ, rfl, h⟩
  | ret => intro ro Q ρ w _ h; exact wpIn_ret ⟨ρ, rfl, h⟩
  | rangeFunc g ps as bd iha ihb =>
    intro ro Q ρ w hro h
    simp only [trS] at h
    split at h
    · rename_i x hx
      split at h
      · rename_i hc
        rcases hro with rfl | hro
        · exact rng_ok hx h
        · simp only [trS, hx, hc, if_true, noR] at hro
          cases hro
      · exact h.elim
    · exact h.elim
  | scope a ih =>
    intro ro Q ρ w hro h
    refine wpIn_scope_straight (wpIn_mono (ih (hro.imp (fun h => h) fun h => by simpa only [trS, noR] using h) (vcS_ng h)) ?_)
    rintro e _ w' ⟨ρ', rfl, hq⟩
    cases e with
    | goto l => exact hq.elim
    | _ => exact ⟨ρ', rfl, hq⟩
  | label => intro ro Q ρ w _ h; exact wpIn_label ⟨ρ, rfl, h⟩
  | goto => intro ro Q ρ w _ h; exact h.elim
  | refuse => intro ro Q ρ w _ h; exact h.elim

/-! ### One round -/
def setPs (ρ : Env) : List Nat → List Value → Env
  | p :: ps, v :: vs => setPs (up ρ p v) ps vs
  | _, _ => ρ
theorem set_tmps (p : Nat) (v : Value) : (act N ρ).tmps.setIfInBounds p v = (act N (up ρ p v)).tmps := by
  simp only [act]
  apply Array.ext_getElem?
  intro i
  rw [Array.getElem?_setIfInBounds]
  simp only [Array.getElem?_map, Array.getElem?_range, Array.size_map, Array.size_range]
  by_cases h : p = i
  · subst h
    by_cases hd : p < N <;> simp [hd, up]
  · rw [if_neg h]
    by_cases hd : i < N <;> simp [hd, up, Ne.symm h]
theorem setPs_tmps : ∀ (ps : List Nat) (vs : List Value) (ρ : Env), (ps.zip vs).foldl (fun t (x : Nat × Value) => t.setIfInBounds x.1 x.2) (act N ρ).tmps = (act N (setPs ρ ps vs)).tmps
  | [], _, ρ => by simp [setPs]
  | p :: ps, [], ρ => by simp [setPs]
  | p :: ps, v :: vs, ρ => by
    simp only [List.zip_cons_cons, List.foldl_cons, setPs]
    rw [set_tmps]
    exact setPs_tmps ps vs _
/-- A round, out of what its two pieces of code ask. -/
theorem yld_ok {l : Nat} {ps : Array Nat} {as bd : Code} {D fn : Nat} {args : List Value} {k : Value → World → Prop} (hr : w.heap[l]? = some (.loop (recL N ρ ps as bd D fn .ready))) (hps : args.length = ps.size)
    (hn : noR (trS P N hs as) = true ∧ noR (trS P N hs bd) = true)
    (h : vcS P (trS P N hs as) (thenQ (fun ρ1 w1 => w1.heap[l]? = some (.loop (recL N ρ ps as bd D fn .ready)) ∧
      vcS P (trS P N hs bd) (thenQ (fun _ w2 => w2.heap[l]? = some (.loop (recL N ρ ps as bd D fn .busy)) ∧ k (.bool true) (w2.putObj l (.loop (recL N ρ ps as bd D fn .ready)))) fun _ _ _ => False) ρ1 (w1.putObj l (.loop (recL N ρ ps as bd D fn .busy)))) fun _ _ _ => False) (up (setPs ρ ps.toList args) N undef) w) : yldP P l args w k := by
  have hy := run_yield (P := P) (args := args.toArray) hr (by simpa [recL] using hps)
  refine ⟨_, _, _, _, hy, ?_⟩
  have e1 : ((recL N ρ ps as bd D fn .ready).params.zip args.toArray).foldl (fun tmps (x : Tmp × Value) => tmps.setIfInBounds x.1 x.2) (recL N ρ ps as bd D fn .ready).tmps = (act N (setPs ρ ps.toList args)).tmps := by
    rw [← setPs_tmps, ← Array.foldl_toList]
    simp [recL]
  have e2 : ({ tmps := (act N (setPs ρ ps.toList args)).tmps, defers := [] } : Act) = act N (up (setPs ρ ps.toList args) N undef) := by
    rw [act_up]; rfl
  refine RoundIn.mono (R := fun e w' => ∃ v, e = .returned v ∧ k v w') ?_ (fun e w' h => h)
  refine roundIn_of_wpIn (F := Fence.wide) trivial ?_
  rw [e1, e2]
  refine wpIn_mono (vcS_ok (ro := some l) (.inr hn.1) h) ?_
  rintro e _ w1 ⟨ρ1, rfl, hq⟩
  cases e with
  | normal =>
    obtain ⟨h1, h2⟩ := hq
    refine ⟨_, run_beginRound h1 (by simp [recL]), ?_⟩
    refine wpIn_mono (vcS_ok (ro := some l) (.inr hn.2) h2) ?_
    rintro e _ w2 ⟨ρ2, rfl, hq⟩
    cases e with
    | normal =>
      obtain ⟨h3, h4⟩ := hq
      exact ⟨_, _, run_endRound none h3, _, rfl, h4⟩
    | _ => exact hq.elim
  | _ => exact hq.elim

/-! ### What a piece of code writes -/
def wrL : List St → List Nat
  | [] => []
  | s :: r => (match s.dst with | some d => [d] | none => []) ++ wrL r
def wrD : D → List Nat
  | .ops l => wrL l
  | .alt l a b => wrL l ++ (wrD a ++ wrD b)
def wrS : S → List Nat
  | .ops l => wrL l
  | .draw d => wrD d
  | .seq a b => wrS a ++ wrS b
  | .cond _ a b => wrS a ++ wrS b
  | .blk _ a => wrS a
  | .loop a => wrS a
  | .rng N .. => [N]
  | _ => []
def Off (W : List Nat) (ρ ρ' : Env) : Prop := ∀ i, i ∉ W → ρ' i = ρ i
theorem Off.refl (W : List Nat) (ρ : Env) : Off W ρ ρ := fun _ _ => rfl
theorem Off.trans {W : List Nat} {a b c : Env} (h : Off W a b) (k : Off W b c) : Off W a c := fun i hi => (k i hi).trans (h i hi)
theorem Off.mono {W W' : List Nat} {a b : Env} (h : Off W a b) (hs : ∀ i, i ∈ W → i ∈ W') : Off W' a b := fun i hi => h i (fun hw => hi (hs i hw))
theorem Off.upd (ρ : Env) (d : Option Nat) (v : Value) : Off (match d with | some d => [d] | none => []) ρ (upd ρ d v) := by
  intro i hi
  cases d with
  | none => rfl
  | some d =>
    simp only [List.mem_singleton] at hi
    simp [E.upd, up, hi]

theorem vcL_off : ∀ {l : List St} {Q : Post} {ρ : Env} {w : World}, vcL P l Q ρ w → vcL P l (fun e ρ' w' => Q e ρ' w' ∧ Off (wrL l) ρ ρ') ρ w
  | [], Q, ρ, w, h => ⟨h, Off.refl _ _⟩
  | s :: r, Q, ρ, w, h => by
    have step : ∀ (v : Value) (w' : World), vcL P r Q (E.upd ρ s.dst v) w' → vcL P r (fun e ρ' w' => Q e ρ' w' ∧ Off (wrL (s :: r)) ρ ρ') (E.upd ρ s.dst v) w' := by
      intro v w' hh
      refine vcL_mono (fun e ρ' w'' h => ⟨h.1, ?_⟩) (vcL_off hh)
      refine Off.trans ((Off.upd ρ s.dst v).mono ?_) (h.2.mono ?_)
      · intro i hi; simp only [wrL, List.mem_append]; exact .inl hi
      · intro i hi; simp only [wrL, List.mem_append]; exact .inr hi
    simp only [vcL] at h ⊢
    split at h
    · exact vcI_mono step h
    · exact grdP_mono (fun h => vcI_mono step h) (step _ _) h
theorem vcD_off : ∀ {d : D} {Q : Post} {ρ : Env} {w : World}, vcD P d Q ρ w → vcD P d (fun e ρ' w' => Q e ρ' w' ∧ Off (wrD d) ρ ρ') ρ w
  | .ops l, Q, ρ, w, h => vcL_off h
  | .alt l a b, Q, ρ, w, h => by
    refine vcL_mono (Q := fun e ρ' w' => (vcD P a Q ρ' w' ∧ vcD P b Q ρ' w') ∧ Off (wrL l) ρ ρ') ?_ (vcL_off (Q := fun _ ρ w => vcD P a Q ρ w ∧ vcD P b Q ρ w) h)
    intro e ρ' w' ⟨⟨ha, hb⟩, ho⟩
    refine ⟨vcD_mono (fun e ρ'' w'' h => ⟨h.1, ?_⟩) (vcD_off ha), vcD_mono (fun e ρ'' w'' h => ⟨h.1, ?_⟩) (vcD_off hb)⟩
    · exact Off.trans (ho.mono (by intro i hi; simp [wrD, hi])) (h.2.mono (by intro i hi; simp [wrD, hi]))
    · exact Off.trans (ho.mono (by intro i hi; simp [wrD, hi])) (h.2.mono (by intro i hi; simp [wrD, hi]))

theorem vcS_off : ∀ {s : S} {Q : Post} {ρ : Env} {w : World}, vcS P s Q ρ w → vcS P s (fun e ρ' w' => Q e ρ' w' ∧ Off (wrS s) ρ ρ') ρ w := by
  intro s
  induction s with
  | skip => intro Q ρ w h; exact ⟨h, Off.refl _ _⟩
  | ops l => intro Q ρ w h; exact vcL_off h
  | draw d => intro Q ρ w h; exact vcD_off h
  | seq a b iha ihb =>
    intro Q ρ w h
    show vcS P a _ ρ w
    refine vcS_mono ?_ (iha h)
    intro e ρ' w' ⟨h, ho⟩
    cases e with
    | normal =>
      refine vcS_mono ?_ (ihb h)
      intro e ρ'' w'' ⟨h2, ho2⟩
      exact ⟨h2, Off.trans (ho.mono (by intro i hi; simp only [wrS, List.mem_append]; exact .inl hi)) (ho2.mono (by intro i hi; simp only [wrS, List.mem_append]; exact .inr hi))⟩
    | _ => exact ⟨h, ho.mono (by intro i hi; simp only [wrS, List.mem_append]; exact .inl hi)⟩
  | cond c a b iha ihb =>
    intro Q ρ w h
    refine condP_mono (fun h => ?_) (fun h => ?_) h
    · exact vcS_mono (fun e ρ' w' h => ⟨h.1, h.2.mono (by intro i hi; simp only [wrS, List.mem_append]; exact .inl hi)⟩) (iha h)
    · exact vcS_mono (fun e ρ' w' h => ⟨h.1, h.2.mono (by intro i hi; simp only [wrS, List.mem_append]; exact .inr hi)⟩) (ihb h)
  | blk id a ih =>
    intro Q ρ w h
    show vcS P a _ ρ w
    refine vcS_mono ?_ (ih h)
    intro e ρ' w' ⟨h, ho⟩
    cases e with
    | exit i =>
      simp only [blkQ] at h ⊢
      split at h
      · rename_i hc; rw [if_pos hc]; exact ⟨h, ho⟩
      · rename_i hc; rw [if_neg hc]; exact ⟨h, ho⟩
    | _ => exact ⟨h, ho⟩
  | loop a ih =>
    intro Q ρ w h
    obtain ⟨I, ⟨n0, h0⟩, hr⟩ := h
    refine ⟨fun n ρ' w' => I n ρ' w' ∧ Off (wrS a) ρ ρ', ⟨n0, h0, Off.refl _ _⟩, ?_⟩
    intro n ρ1 w1 ⟨hi, ho⟩
    refine vcS_mono ?_ (ih (hr n ρ1 w1 hi))
    intro e ρ2 w2 ⟨h, ho2⟩
    cases e with
    | normal => obtain ⟨n', hn, h⟩ := h; exact ⟨n', hn, h, Off.trans ho ho2⟩
    | _ => exact ⟨h, Off.trans ho ho2⟩
  | exit id => intro Q ρ w h; exact ⟨h, Off.refl _ _⟩
  | ret => intro Q ρ w h; exact ⟨h, Off.refl _ _⟩
  | bad => intro Q ρ w h; exact h
  | rng M x ps as bd a b =>
    intro Q ρ w h
    refine rngP_mono (fun w' h => ⟨h, fun i hi => ?_⟩) h
    have : ¬ i = M := by simpa [wrS] using hi
    simp [up, this]

/-! ### Functions -/
inductive RV where
  | t (s : Nat) | ld (s : Nat) | ldN (n s : Nat)
structure SF where
  n : Nat
  k : Nat
  res : List RV
  body : S
def trR (P : Program) (N : Nat) : ResultVar → Option RV
  | .tmp s => if s < N then some (.t s) else none
  | .cell s t => if s < N then (match P.underlying t with | some d => if isAggB d then (szOf P t).map (.ldN · s) else some (.ld s) | none => none) else none
def trRs (P : Program) (N : Nat) : List ResultVar → Option (List RV)
  | [] => some []
  | x :: r => (trR P N x).bind fun a => (trRs P N r).map (a :: ·)
def trF (P : Program) (hs : Hints) (f : Nat) : Option SF :=
  (P.funcs[f]?).bind fun fn => fn.body.bind fun c => (trRs P fn.ntmps fn.results.toList).bind fun rs => if fn.params.size + fn.nfree ≤ fn.ntmps then some ⟨fn.ntmps, fn.params.size + fn.nfree, rs, trS P fn.ntmps hs c⟩ else none

def tupV : List Value → Value
  | [v] => v
  | vs => .tuple vs.toArray
def resP : List RV → Env → World → (List Value → Prop) → Prop
  | [], _, _, k => k []
  | .t s :: r, ρ, w, k => resP r ρ w fun vs => k (ρ s :: vs)
  | .ld s :: r, ρ, w, k => seqO (ldV w (ρ s)) fun v => resP r ρ w fun vs => k (v :: vs)
  | .ldN n s :: r, ρ, w, k => seqO (ldNV w n (ρ s)) fun v => resP r ρ w fun vs => k (v :: vs)
def valsOf (v : Value) : List Value := match v with | .tuple vs => vs.toList | _ => []
theorem valsOf_dfrs (v : Value) : dfrs v = (valsOf v).map dfr1 := by cases v <;> rfl
/-- A call that was put off. -/
def dfrP (P : Program) (f : FuncId) (args : List Value) (w : World) (k : World → Prop) : Prop := CallsDIn (fz none) 0 P f args.toArray .returning w fun e u' w' => u' = .returning ∧ ∃ v, e = .returned v ∧ k w'
/-- What is done behind a body's end. -/
def finP (P : Program) : List Value → World → (World → Prop) → Prop
  | [], w, k => k w
  | .int _ D :: r, w, k => w.heap[D.toNat]? = some (.deferred (some [])) ∧ finP P r (w.putObj D.toNat (.deferred none)) k
  | .func (.func f) first cap :: r, w, k => okFn P f = true ∧ dfrP P f (first.toList ++ cap.toList) w fun w' => finP P r w' k
  | _, _, _ => False
def retQ (P : Program) (N : Nat) (rs : List RV) (R : Value → World → Prop) : Post := fun e ρ w => match e with | .normal | .ret => finP P (valsOf (ρ N)) w fun w => resP rs ρ w fun vs => R (tupV vs) w | _ => False
def ini : List Value → Env
  | [], _ => undef
  | v :: r, i => if i = 0 then v else ini r (i - 1)
theorem ini_get (l : List Value) (i : Nat) : ini l i = (l[i]?).getD undef := by
  induction l generalizing i with
  | nil => rfl
  | cons v r ih =>
    simp only [ini]
    cases i with
    | zero => rfl
    | succ i => simp [ih]
theorem ini_act (args : List Value) (h : args.length ≤ N) : ({ tmps := args.toArray ++ Array.replicate (N - args.toArray.size) undef, defers := [] } : Act) = act N (ini args) := by
  simp only [act]
  have hu : ini args N = undef := by rw [ini_get, List.getElem?_eq_none h]; rfl
  rw [hu]
  congr 1
  apply Array.ext_getElem?
  intro i
  rw [Array.getElem?_append]
  simp only [List.size_toArray, List.getElem?_toArray, Array.getElem?_replicate, Array.getElem?_map, Array.getElem?_range]
  by_cases hi : i < args.length
  · have : i < N := by omega
    simp [hi, this, ini_get]
  · simp only [hi, if_false]
    by_cases h2 : i < N
    · have : i - args.length < N - args.length := by omega
      simp [h2, this, ini_get, List.getElem?_eq_none (Nat.le_of_not_lt hi)]
    · have : ¬ i - args.length < N - args.length := by omega
      simp [h2, this]

theorem asAddr_ptr (a : Addr) : asAddr (.pointer (some a)) = pure a := rfl
theorem resP_ok {rs : List ResultVar} : ∀ {l : List RV} {k : List Value → Prop}, trRs P N rs = some l → resP l ρ w k → ∃ vs, (rs.mapM (m := Sem) fun
    | .tmp t => pure ((act N ρ).tmps.getD t undef)
    | .cell a t => do loadVar t (← asAddr ((act N ρ).tmps.getD a undef))).run P w = .ok vs w ∧ k vs := by
  induction rs with
  | nil => intro l k h hk; injection h with h; subst h; exact ⟨[], by simp, hk⟩
  | cons x r ih =>
    intro l k h hk
    simp only [trRs, Option.bind_eq_some_iff, Option.map_eq_some_iff] at h
    obtain ⟨a, ha, l', hl', rfl⟩ := h
    cases x with
    | tmp s =>
      simp only [trR] at ha
      split at ha
      · rename_i hs
        injection ha with ha; subst ha
        obtain ⟨vs, h1, h2⟩ := ih hl' hk
        refine ⟨_, ?_, h2⟩
        simp only [List.mapM_cons, Sem.run_bind, Sem.run_pure, Result.andThen_ok]
        rw [h1, act_get N ρ s hs]
        simp
      · cases ha
    | cell s t =>
      simp only [trR] at ha
      split at ha
      · rename_i hs
        split at ha
        · rename_i d hd
          split at ha
          · rename_i hag
            simp only [Option.map_eq_some_iff] at ha
            obtain ⟨n, hn, rfl⟩ := ha
            obtain ⟨v, hv, hk⟩ := seqO_ex hk
            obtain ⟨vs, h1, h2⟩ := ih hl' hk
            refine ⟨_, ?_, h2⟩
            have hv' : ldNV w n ((act N ρ).tmps.getD s undef) = some v := by rw [act_get N ρ s hs]; exact hv
            unfold ldNV at hv'
            split at hv'
            · rename_i ad had
              rw [Option.map_eq_some_iff] at hv'
              obtain ⟨c, hc, rfl⟩ := hv'
              have hl := lds_run (P := P) ad n 0 c #[] hc
              have hlv : (loadVar t ad).run P w = .ok (.agg c.toArray) w := by
                simp only [loadVar, Sem.run_bind, isAgg_run hd, hag, if_true, szOf_run hn, Result.andThen_ok, loadCells, hl]
                simp
              simp only [List.mapM_cons, Sem.run_bind, had, asAddr_ptr, Sem.run_pure, Result.andThen_ok, hlv]
              rw [h1]
              simp
            · cases hv'
          · rename_i hag
            injection ha with ha; subst ha
            obtain ⟨v, hv, hk⟩ := seqO_ex hk
            obtain ⟨vs, h1, h2⟩ := ih hl' hk
            refine ⟨_, ?_, h2⟩
            have hv' : ldV w ((act N ρ).tmps.getD s undef) = some v := by rw [act_get N ρ s hs]; exact hv
            unfold ldV at hv'
            split at hv'
            · rename_i ad had
              have hlv : (loadVar t ad).run P w = .ok v w := by
                simp only [loadVar, Sem.run_bind, isAgg_run hd, hag, Bool.false_eq_true, if_false, Result.andThen_ok]
                simp [load, Sem.run, hv']
              simp only [List.mapM_cons, Sem.run_bind, had, asAddr_ptr, Sem.run_pure, Result.andThen_ok, hlv]
              rw [h1]
              simp
            · cases hv'
        · cases ha
      · cases ha

theorem fin_ok {fn : Func} {tmps : Array Value} {R : Ending → World → Prop} : ∀ {l : List Value} {w : World}, finP P l w (fun w => ∃ v, (results fn tmps).run P w = .ok v w ∧ R (.returned v) w) → LeavesInM (fz none) 0 P fn tmps R (l.map dfr1) .returning w
  | [], w, h => h
  | x :: r, w, h => by
    unfold finP at h
    split at h
    · rename_i heq; cases heq
    · rename_i k D r' heq
      injection heq with e1 e2
      subst e1; subst e2
      exact ⟨by simp, .inl ⟨D.toNat, _, rfl, run_takeDeferred h.1, fin_ok h.2⟩⟩
    · rename_i f first cap r' heq
      injection heq with e1 e2
      subst e1; subst e2
      obtain ⟨hok, h⟩ := h
      refine ⟨by simp, .inr ⟨fz_depth, .func f, cap, f, (first.toList ++ cap.toList).toArray, rfl, ?_, fun _ _ => trivial, ?_⟩⟩
      · show (invoke (.fn (.func f) cap) first).run P _ = _
        simp only [invoke]
        have e : first ++ cap = (first.toList ++ cap.toList).toArray := by rw [← Array.toList_inj]; simp
        rw [e]
        exact okFn_run hok
      · refine CallsDIn.mono h ?_
        rintro e u' w' ⟨rfl, v, rfl, hk⟩
        exact fin_ok hk
    · exact h.elim
theorem finP_mono : ∀ {l : List Value} {w : World} {k k' : World → Prop}, (∀ w, k w → k' w) → finP P l w k → finP P l w k'
  | [], w, k, k', hk, h => hk _ h
  | x :: r, w, k, k', hk, h => by
    unfold finP at h
    split at h
    · rename_i heq; cases heq
    · rename_i kd D r' heq
      injection heq with e1 e2
      subst e1; subst e2
      exact ⟨h.1, finP_mono hk h.2⟩
    · rename_i f first cap r' heq
      injection heq with e1 e2
      subst e1; subst e2
      refine ⟨h.1, CallsDIn.mono h.2 ?_⟩
      rintro e u' w' ⟨hu, v, he, hh⟩
      exact ⟨hu, v, he, finP_mono hk hh⟩
    · exact h.elim
/-- A function's contract, out of what its body asks. -/
theorem fn_ok {f : FuncId} {sf : SF} {args : List Value} {R : Value → World → Prop} (hf : trF P hs f = some sf) (ha : args.length = sf.k) (h : vcS P sf.body (retQ P sf.n sf.res R) (ini args) w) : callP P f args w R := by
  simp only [trF, Option.bind_eq_some_iff] at hf
  obtain ⟨fn, hfn, c, hc, rs, hrs, hf⟩ := hf
  split at hf
  · rename_i hle
    injection hf with hf; subst hf
    refine callsIn_wide (n := 0).1 (callsIn_of_wp_marks hfn hc trivial ?_)
    rw [ini_act args (by simp only at ha; omega)]
    refine wpIn_mono (vcS_ok (ro := none) (.inl rfl) h) ?_
    rintro e _ w' ⟨ρ, rfl, hq⟩
    have key : finP P (valsOf (ρ fn.ntmps)) w' (fun w' => resP rs ρ w' (fun vs => R (tupV vs) w')) → LeavesInM (fz none) 0 P fn (act fn.ntmps ρ).tmps (fun e w' => ∃ v, e = .returned v ∧ R v w') (act fn.ntmps ρ).defers .returning w' := by
      intro hq
      show LeavesInM (fz none) 0 P fn (act fn.ntmps ρ).tmps (fun e w' => ∃ v, e = .returned v ∧ R v w') (dfrs (ρ fn.ntmps)) .returning w'
      rw [valsOf_dfrs]
      refine fin_ok (finP_mono (fun w' hq => ?_) hq)
      obtain ⟨vs, h1, h2⟩ := resP_ok hrs hq
      refine ⟨tupV vs, ?_, _, rfl, h2⟩
      have h3 : (fn.results.mapM (m := Sem) fun
          | .tmp t => pure ((act fn.ntmps ρ).tmps.getD t undef)
          | .cell a t => do loadVar t (← asAddr ((act fn.ntmps ρ).tmps.getD a undef))).run P w' = .ok vs.toArray w' := by
        have : fn.results = fn.results.toList.toArray := by simp
        rw [this, List.mapM_toArray, Sem.run_map, h1]
        rfl
      simp only [results, Sem.run_bind]
      refine Eq.trans (congrArg (fun (r : Result (Array Value)) => r.andThen fun a w' => Sem.run P (pure (if h : a.size = 1 then a[0] else Value.tuple a)) w') h3) ?_
      simp only [Result.andThen_ok, Sem.run_pure]
      congr 1
      match vs with
      | [] => rfl
      | [v] => rfl
      | a :: b :: r => simp [tupV]
    cases e with
    | normal => exact key hq
    | ret => exact key hq
    | _ => exact hq.elim
  · cases hf
/-- The same of a function that is called at an end, and puts nothing off itself. -/
theorem fnD_ok {f : FuncId} {sf : SF} {args : List Value} {R : World → Prop} (hf : trF P hs f = some sf) (ha : args.length = sf.k) (hn : (wrS sf.body).contains sf.n = false) (h : vcS P sf.body (retQ P sf.n sf.res fun _ w => R w) (ini args) w) : dfrP P f args w R := by
  simp only [trF, Option.bind_eq_some_iff] at hf
  obtain ⟨fn, hfn, c, hc, rs, hrs, hf⟩ := hf
  split at hf
  · rename_i hle
    injection hf with hf; subst hf
    refine CallsDIn.mono (R := fun e u' w' => u' = .returning ∧ ∃ v, e = .returned v ∧ R w') (callsDIn_of_wp hfn hc trivial ?_) (fun _ _ _ h => h)
    rw [ini_act args (by simp only at ha; omega)]
    refine wpIn_mono (vcS_ok (ro := none) (.inl rfl) (vcS_off h)) ?_
    rintro e _ w' ⟨ρ, rfl, hq, hoff⟩
    have hN : ρ fn.ntmps = undef := by
      rw [hoff fn.ntmps (fun hm => by
        have : (wrS (trS P fn.ntmps hs c)).contains fn.ntmps = true := by simpa using hm
        rw [this] at hn
        cases hn), ini_get, List.getElem?_eq_none (by simp only at ha; omega)]
      rfl
    have key : resP rs ρ w' (fun vs => R w') → (act fn.ntmps ρ).defers = [] ∧ ∃ v, (results fn (act fn.ntmps ρ).tmps).run P w' = .ok v w' ∧ ∃ v', (Ending.returned v) = .returned v' ∧ R w' := by
      intro hq
      refine ⟨by show dfrs (ρ fn.ntmps) = []; rw [hN]; rfl, ?_⟩
      obtain ⟨vs, h1, h2⟩ := resP_ok hrs hq
      refine ⟨tupV vs, ?_, _, rfl, h2⟩
      have h3 : (fn.results.mapM (m := Sem) fun
          | .tmp t => pure ((act fn.ntmps ρ).tmps.getD t undef)
          | .cell a t => do loadVar t (← asAddr ((act fn.ntmps ρ).tmps.getD a undef))).run P w' = .ok vs.toArray w' := by
        have : fn.results = fn.results.toList.toArray := by simp
        rw [this, List.mapM_toArray, Sem.run_map, h1]
        rfl
      simp only [results, Sem.run_bind]
      refine Eq.trans (congrArg (fun (r : Result (Array Value)) => r.andThen fun a w' => Sem.run P (pure (if h : a.size = 1 then a[0] else Value.tuple a)) w') h3) ?_
      simp only [Result.andThen_ok, Sem.run_pure]
      congr 1
      match vs with
      | [] => rfl
      | [v] => rfl
      | a :: b :: r => simp [tupV]
    have fin : finP P (valsOf (ρ fn.ntmps)) w' (fun w => resP rs ρ w fun vs => R w) → resP rs ρ w' (fun vs => R w') := by
      rw [hN]; exact fun h => h
    cases e with
    | normal => exact key (fin hq)
    | ret => exact key (fin hq)
    | _ => exact hq.elim
  · cases hf
theorem callP_mono {f : FuncId} {args : List Value} {k k' : Value → World → Prop} (h : callP P f args w k) (hk : ∀ v w', k v w' → k' v w') : callP P f args w k' :=
  Calls.mono (R := fun e w' => ∃ v, e = .returned v ∧ k v w') h fun _ _ ⟨v, he, hh⟩ => ⟨v, he, hk _ _ hh⟩
end
end Go.Proofs.YtpnefcapiiemdaaGreatDoor.E
