/- Rows of bytes that keep their type; entries of Go's own; strings out of rows. Conditions: as each theorem says. -/
import Derived.Test.YtmgdkoidgoihfaaGreatDoorF6
import Derived.Lib.AppendStr
import Derived.Lib.UnsafeStr
import Derived.Lib.Builder
import Derived.Lib.Bytealg
namespace Go.Proofs.YtmgdkoidgoihfaaGreatDoor.E
open Go.RowKit Go.Lib

/-- v is a slice of the walk's own, of type e's elements, the bytes t. -/
def OwnT (σ : AS) (e : TypeId) (v : Value) (t : List UInt8) : Prop :=
  (v = .slice none 0 0 ∧ t = []) ∨
  ∃ g c sp, v = .slice (some ⟨g, 0, none⟩) t.length c ∧ σ.m g = some (.typed e (byteCells t ++ sp)) ∧ t.length + sp.length = c ∧ 0 < c ∧ c ≤ maxLen
section
variable {P : Program} {a b σ σ' : AS} {w : World} {k : Value → AS → Prop} {S T : List Nat} {v : Value} {e : TypeId} {t s : List UInt8}
theorem OwnT.nil (σ : AS) (e : TypeId) : OwnT σ e (.slice none 0 0) [] := .inl ⟨rfl, rfl⟩
theorem OwnT.lt (h : OwnT σ e v t) {g : Nat} (hg : g ∈ ownL v) : g < σ.n := by
  rcases h with ⟨rfl, _⟩ | ⟨g', c, sp, rfl, hm, _⟩
  · simp [ownL] at hg
  · simp [ownL] at hg
    subst hg
    exact σ.lt hm
theorem OwnT.chg (h : OwnT σ e v t) (k : Chg S σ σ') (hn : ∀ g, g ∈ ownL v → g ∉ S) : OwnT σ' e v t := by
  rcases h with h | ⟨g, c, sp, rfl, hm, r⟩
  · exact .inl h
  · exact .inr ⟨g, c, sp, rfl, (k.m g (σ.lt hm) (hn g (by simp [ownL]))).trans hm, r⟩
theorem OwnT.val (h : OwnT σ e v t) : ∃ x c, v = .slice x t.length c ∧ t.length ≤ c := by
  rcases h with ⟨rfl, rfl⟩ | ⟨g, c, sp, rfl, _, hc, _⟩
  · exact ⟨none, 0, rfl, Nat.le_refl _⟩
  · exact ⟨_, c, rfl, by omega⟩
theorem OwnT.ok (h : OwnT σ e v t) : okCell v = true := by
  rcases h with ⟨rfl, rfl⟩ | ⟨g, c, sp, rfl, _⟩ <;> rfl
theorem OwnV.ok {n sz : Nat} {xs : List Value} (h : OwnV σ v n sz xs) : okCell v = true := by
  rcases h with ⟨rfl, _⟩ | ⟨g, c, sp, rfl, _⟩ <;> rfl
theorem Chg.wide (h : Chg S a σ) (hT : ∀ i, i ∈ S → i ∈ T) : Chg T a σ := ⟨h.n, fun g hg hn => h.m g hg (fun hs => hn (hT g hs)), h.c⟩
/-- A type of bytes. -/
def byteB (P : Program) (e : TypeId) : Bool :=
  match P.info? e with
  | some i => i.size == 1 && i.bytes == 1 && (match i.zero with | some (.int .u8 0) => true | _ => false)
  | none => false
theorem byteB_ok (h : byteB P e = true) : ∃ i, P.info? e = some i ∧ i.zero = some (.int .u8 0) ∧ i.size = 1 ∧ i.bytes = 1 := by
  unfold byteB at h
  split at h
  · rename_i i hi
    simp only [Bool.and_eq_true, beq_iff_eq] at h
    refine ⟨i, hi, ?_, h.1.1, h.1.2⟩
    obtain ⟨_, h2⟩ := h
    split at h2
    · assumption
    · cases h2
  · cases h
theorem strCells_bs (s : List UInt8) : strCells (bs s) = byteCells s := by simp [strCells, byteCells, bs]
theorem sat_grown (hw : Sat σ w) (news : List Value) (e : TypeId) (n old : Nat) : Sat (σ.new (.typed e (news ++ (Builtin.zeroCells (Value.int .u8 0).cells (grownCap w n old e - n)).toList))) (w.drew.alloc (.cells (news.toArray ++ Builtin.zeroCells (Value.int .u8 0).cells (grownCap w n old e - n)) e)) := by
  refine hw.drew.new_ (ob := .typed e _) (fun w' he => ?_)
  show w'.heap[σ.n]? = _
  rw [he]
  congr 2
  apply Array.toList_inj.1
  simp
/-- A string is laid behind. -/
theorem appS_by {tt u : TypeId} (ht : P.underlying tt = some (.slice e)) (hu : P.underlying u = some .string) (hi : byteB P e = true) (hown : OwnT σ e v t) (hlen : t.length + s.length ≤ 140737488355328)
    (hk : ∀ v' σ', OwnT σ' e v' (t ++ s) → Chg (ownL v) σ σ' → (∀ g, g ∈ ownL v' → g ∈ ownL v ∨ g = σ.n) → k v' σ') : kApp P tt u v (.string (bs s)) σ k := by
  obtain ⟨i, hi1, hi2, hi3, hi4⟩ := byteB_ok hi
  intro w hw
  have hz : w.heap.size = σ.n := hw.sz
  have hmx : ∀ n, n ≤ 140737488355328 → n ≤ maxLen := fun n h => by unfold maxLen; omega
  have grown : ∀ old, old < t.length + s.length →
      Out σ w k (.slice (some ⟨w.heap.size, 0, none⟩) (t.length + s.length) (grownCap w (t.length + s.length) old e)) (w.drew.alloc (.cells ((byteCells (t ++ s)).toArray ++ Builtin.zeroCells (Value.int .u8 0).cells (grownCap w (t.length + s.length) old e - (t.length + s.length))) e)) := by
    intro old ho
    have hge := grownCap_ge w (t.length + s.length) old e
    have hcm : grownCap w (t.length + s.length) old e ≤ maxLen := grownCap_le_maxLen w (t.length + s.length) old e (hmx _ hlen)
    refine ⟨KeepP.drew_alloc _ _ _, _, sat_grown hw (byteCells (t ++ s)) e _ old, Fol.new _ _, ?_⟩
    rw [hz]
    refine hk _ _ (.inr ⟨σ.n, _, _, by rw [List.length_append], by rw [new_eq_], ?_, by omega, hcm⟩) ((Chg.refl _ _).new _) (fun g hg => .inr (by simpa [ownL] using hg))
    have hz1 : (Value.int IntKind.u8 0).cells.size = 1 := rfl
    simp only [List.length_append, Array.length_toList, size_zeroCells, hz1]
    omega
  rcases hown with ⟨rfl, rfl⟩ | ⟨g, cap, sp, rfl, hm, hcl, hc0, hcm⟩
  · by_cases h0 : s = []
    · subst h0
      refine ⟨.slice none 0 0, w, ?_, KeepP.refl _ _, σ, hw, Fol.refl _, hk _ _ (.inl ⟨rfl, rfl⟩) (Chg.refl _ _) (fun g hg => .inl hg)⟩
      have hf := run_firstCells_string (P := P) w 1 (bs [])
      have hs0 : (bs []).size = 0 := rfl
      rw [hs0] at hf
      simp [Builtin.append_, run_underlying ht, run_underlying hu, sizeOf, typeInfo, hi1, hi3, Builtin.lenOf, hs0, hf]
    · have hp : 0 < s.length := by cases s with | nil => exact absurd rfl h0 | cons => simp
      have hr := run_append_nil_string (P := P) w tt u 0 e i (.int .u8 0) ht hu hi1 hi2 (bs s) (by rw [bs_size]; exact hp) (by rw [bs_size]; simp only [List.length_nil] at hlen; omega) (by rw [bs_size, hi4]; simp only [List.length_nil] at hlen; omega)
      have hg := grown 0 (by simp only [List.length_nil]; omega)
      simp only [List.length_nil, Nat.zero_add, List.nil_append] at hg
      have e1 : ((bs s).data.map fun b => Value.int .u8 b.toNat) = (byteCells s).toArray := by
        apply Array.ext'
        simp [byteCells, bs]
      rw [bs_size, e1] at hr
      exact ⟨_, _, hr, hg⟩
  · have hh : w.heap[g]? = some (.cells (byteCells t ++ sp).toArray e (0, 0)) := hw.m g _ hm
    have hb := hw.blkT hm
    by_cases hroom : t.length + s.length ≤ cap
    · have hr := run_append_room_string (P := P) w tt u 0 e i ht hu hi1 hi3 g t.length cap _ hh (bs s) (by rw [bs_size]; exact hroom) (by rw [bs_size, List.size_toArray, List.length_append, byteCells_length]; omega)
      rw [bs_size, strCells_bs, put_row hb] at hr
      refine ⟨_, _, hr, KeepP.put_ (by unfold AS.live; rw [hm]; simp) _, _, hw.putT hm _, Fol.put _ _ _, ?_⟩
      have e1 : (byteCells t ++ sp).toArray.toList.take t.length ++ byteCells s ++ (byteCells t ++ sp).toArray.toList.drop (t.length + s.length) = byteCells (t ++ s) ++ sp.drop s.length := by
        have : t.length = (byteCells t).length := (byteCells_length t).symm
        rw [this, ← List.drop_drop]
        simp only [List.take_left, List.drop_left, byteCells_append]
      rw [e1]
      refine hk _ _ (.inr ⟨g, cap, sp.drop s.length, by rw [List.length_append], by rw [put_eq, hm]; rfl, ?_, hc0, hcm⟩) ((Chg.refl _ _).put (.inl (by simp [ownL])) _) (fun g' hg' => .inl (by simpa [ownL] using hg'))
      simp only [List.length_append, List.length_drop]
      omega
    · have holds : ∀ j u, (byteCells t)[j]? = some u → w.cell? ((⟨g, 0, none⟩ : Addr).add j) = some u := fun j u hu => by
        rw [E.add_eq, cel hb, List.getElem?_append_left (by have := (List.getElem?_eq_some_iff.1 hu).1; omega), Nat.zero_add]; exact hu
      have hr := run_append_grow_string (P := P) w tt u 0 e i (.int .u8 0) ht hu hi1 hi2 ⟨g, 0, none⟩ t.length cap (byteCells t) (by rw [hi3, byteCells_length, Nat.mul_one]) holds (bs s) (by rw [bs_size]; omega) (by rw [bs_size]; omega) (by rw [bs_size]; exact growslice_fits (by omega) (by rw [hi4]; omega))
      have hg := grown cap (by omega)
      rw [bs_size, strCells_bs] at hr
      rw [byteCells_append, ← List.append_toArray] at hg
      exact ⟨_, _, hr, hg⟩
/-- Bytes are laid behind. -/
theorem appT_by {tt : TypeId} {bb o c : Nat} (ht : P.underlying tt = some (.slice e)) (hi : byteB P e = true) (hown : OwnT σ e v t) (hn : ldsS σ bb o s.length = some (byteCells s)) (hlen : t.length + s.length ≤ 140737488355328)
    (hk : ∀ v' σ', OwnT σ' e v' (t ++ s) → Chg (ownL v) σ σ' → (∀ g, g ∈ ownL v' → g ∈ ownL v ∨ g = σ.n) → k v' σ') : kApp P tt tt v (.slice (some ⟨bb, o, none⟩) s.length c) σ k := by
  obtain ⟨i, hi1, hi2, hi3, hi4⟩ := byteB_ok hi
  intro w hw
  have hz : w.heap.size = σ.n := hw.sz
  have hmx : ∀ n, n ≤ 140737488355328 → n ≤ maxLen := fun n h => by unfold maxLen; omega
  have hcell : ∀ j u, (byteCells s)[j]? = some u → w.cell? ((⟨bb, o, none⟩ : Addr).add j) = some u := fun j u hu => by
    rw [E.add_eq]; exact cells_of_lds hw (b := bb) (o := o) hn j u hu
  have hok : ∀ u ∈ byteCells s, u.oneCell' = true := fun u hu => by
    simp only [byteCells, List.mem_map] at hu
    obtain ⟨b, _, rfl⟩ := hu
    rfl
  have grown : ∀ old, old < t.length + s.length →
      Out σ w k (.slice (some ⟨w.heap.size, 0, none⟩) (t.length + s.length) (grownCap w (t.length + s.length) old e)) (w.drew.alloc (.cells ((byteCells (t ++ s)).toArray ++ Builtin.zeroCells (Value.int .u8 0).cells (grownCap w (t.length + s.length) old e - (t.length + s.length))) e)) := by
    intro old ho
    have hge := grownCap_ge w (t.length + s.length) old e
    have hcm : grownCap w (t.length + s.length) old e ≤ maxLen := grownCap_le_maxLen w (t.length + s.length) old e (hmx _ hlen)
    refine ⟨KeepP.drew_alloc _ _ _, _, sat_grown hw (byteCells (t ++ s)) e _ old, Fol.new _ _, ?_⟩
    rw [hz]
    refine hk _ _ (.inr ⟨σ.n, _, _, by rw [List.length_append], by rw [new_eq_], ?_, by omega, hcm⟩) ((Chg.refl _ _).new _) (fun g hg => .inr (by simpa [ownL] using hg))
    have hz1 : (Value.int IntKind.u8 0).cells.size = 1 := rfl
    simp only [List.length_append, Array.length_toList, size_zeroCells, hz1]
    omega
  rcases hown with ⟨rfl, rfl⟩ | ⟨g, cap, sp, rfl, hm, hcl, hc0, hcm⟩
  · by_cases h0 : s = []
    · subst h0
      refine ⟨.slice none 0 0, w, ?_, KeepP.refl _ _, σ, hw, Fol.refl _, hk _ _ (.inl ⟨rfl, rfl⟩) (Chg.refl _ _) (fun g hg => .inl hg)⟩
      simp [Builtin.append_, run_underlying ht, sizeOf, typeInfo, hi1, Builtin.lenOf, Builtin.firstCells, loadCells, loadCellsFrom]
    · have hp : 0 < s.length := by cases s with | nil => exact absurd rfl h0 | cons => simp
      have hr := run_append_nil (P := P) w tt 0 e i (.int .u8 0) ht hi1 hi2 ⟨bb, o, none⟩ s.length c (byteCells s) (by rw [byteCells_length, hi3, Nat.mul_one]) hcell (by omega) (by simp only [List.length_nil] at hlen; omega) (by rw [hi4]; simp only [List.length_nil] at hlen; omega)
      have hg := grown 0 (by simp only [List.length_nil]; omega)
      simp only [List.length_nil, Nat.zero_add, List.nil_append] at hg
      exact ⟨_, _, hr, hg⟩
  · have hh : w.heap[g]? = some (.cells (byteCells t ++ sp).toArray e (0, 0)) := hw.m g _ hm
    have hb := hw.blkT hm
    by_cases hroom : t.length + s.length ≤ cap
    · have hr := run_room (P := P) w tt 0 e e i ht hi1 g t.length cap _ hh ⟨bb, o, none⟩ s.length c (byteCells s) (by rw [byteCells_length, hi3, Nat.mul_one]) hcell hok hroom (by rw [List.size_toArray, List.length_append, byteCells_length, byteCells_length, hi3]; omega)
      rw [put_row hb, hi3, Nat.mul_one, byteCells_length] at hr
      refine ⟨_, _, hr, KeepP.put_ (by unfold AS.live; rw [hm]; simp) _, _, hw.putT hm _, Fol.put _ _ _, ?_⟩
      have e1 : (byteCells t ++ sp).toArray.toList.take t.length ++ byteCells s ++ (byteCells t ++ sp).toArray.toList.drop (t.length + s.length) = byteCells (t ++ s) ++ sp.drop s.length := by
        have : t.length = (byteCells t).length := (byteCells_length t).symm
        rw [this, ← List.drop_drop]
        simp only [List.take_left, List.drop_left, byteCells_append]
      rw [e1]
      refine hk _ _ (.inr ⟨g, cap, sp.drop s.length, by rw [List.length_append], by rw [put_eq, hm]; rfl, ?_, hc0, hcm⟩) ((Chg.refl _ _).put (.inl (by simp [ownL])) _) (fun g' hg' => .inl (by simpa [ownL] using hg'))
      simp only [List.length_append, List.length_drop]
      omega
    · have holds : ∀ j u, (byteCells t)[j]? = some u → w.cell? ((⟨g, 0, none⟩ : Addr).add j) = some u := fun j u hu => by
        rw [E.add_eq, cel hb, List.getElem?_append_left (by have := (List.getElem?_eq_some_iff.1 hu).1; omega), Nat.zero_add]; exact hu
      have hr := run_append_grow (P := P) w tt 0 e i (.int .u8 0) ht hi1 hi2 ⟨g, 0, none⟩ t.length cap (byteCells t) (by rw [hi3, byteCells_length, Nat.mul_one]) holds ⟨bb, o, none⟩ s.length c (byteCells s) (by rw [byteCells_length, hi3, Nat.mul_one]) hcell (by omega) (by omega) (growslice_fits (by omega) (by rw [hi4]; omega))
      have hg := grown cap (by omega)
      rw [byteCells_append, ← List.append_toArray] at hg
      exact ⟨_, _, hr, hg⟩

/-! ### Entries of Go's own -/
def extB (P : Program) (f : FuncId) : Bool := match P.funcs[f]? with
  | some fn => !(fn.name == "runtime.NumGoroutine") && fn.body.isNone && (Extern.findNext fn).isNone
  | none => false
theorem ext_by {f : FuncId} {e : Array Value → Sem Value} {args : List Value} {v : Value} (h : extB P f = true) (he : (P.funcs[f]?).bind Extern.find = some e) (hr : ∀ w, (e args.toArray).run P w = .ok v w) (hk : k v σ) : kGen P (.ext f) args σ k := by
  intro w hw
  unfold extB at h
  split at h
  · rename_i fn hf
    simp only [Bool.and_eq_true, Bool.not_eq_true', Option.isNone_iff_eq_none] at h
    obtain ⟨⟨h1, h2⟩, h3⟩ := h
    rw [hf, Option.bind_some] at he
    refine ⟨v, w, ?_, Out.same hw hk⟩
    simp only [lkSem, Sem.run_bind, run_callFunc_extern hf h1 (by rw [h2]; rfl) h3 he, hr w, Result.andThen_ok, Sem.run_pure]
  · cases h
/-- internal/bytealg.IndexByteString. -/
theorem idx_by {f : FuncId} {c : Int} (h : extB P f = true) (he : (P.funcs[f]?).bind Extern.find = some Extern.BytealgIndexByte.indexByte) (hk : k (.int .i64 (indexByte s c.toNat.toUInt8)) σ) : kGen P (.ext f) [.string (bs s), .int .u8 c] σ k :=
  ext_by h he (fun w => run_indexByteString (bs s) c w) hk
/-- internal/abi.NoEscape. -/
theorem noe_by {f : FuncId} {x : Value} (h : extB P f = true) (he : (P.funcs[f]?).bind Extern.find = some Extern.AbiNoEscape.same) (hk : k x σ) : kGen P (.ext f) [x] σ k :=
  ext_by h he (fun w => run_noEscape w x) hk
/-- A pointer to a block with its type as unsafe.Pointer, and back. -/
def cvtB (P : Program) (src dst : TypeId) : Bool := match P.underlying src, P.underlying dst with
  | some (.pointer t), some .unsafePointer => (match P.info? t with | some j => j.size != 0 | none => false)
  | _, _ => false
theorem cvt_by {src dst T : TypeId} {g o : Nat} {L : List Value} (h : cvtB P src dst = true) (hm : σ.m g = some (.typed T L)) (ho : o < L.length) (hk : k (.pointer (some ⟨g, o, none⟩)) σ) : kGen P (.cv src dst) [.pointer (some ⟨g, o, none⟩)] σ k := by
  intro w hw
  unfold cvtB at h
  split at h
  · rename_i t h1 h2
    split at h
    · rename_i j hj
      have hh : w.heap[g]? = some (.cells L.toArray T (0, 0)) := hw.m g _ hm
      exact ⟨_, _, run_to_unsafe w ⟨g, o, none⟩ h1 h2 hj (by simpa using h) (e := T) (cells := L.length) (by simp [World.shape?, hh]) ho, Out.same hw hk⟩
    · cases h
  · cases h
def cvfB (P : Program) (src dst T : TypeId) (n o : Nat) : Bool := match P.underlying src, P.underlying dst with
  | some .unsafePointer, some (.pointer u) => (P.info? u).isSome && liesAt P P.depth T (n / P.cellsOf T) o u 1
  | _, _ => false
theorem cvf_by {src dst T : TypeId} {g o : Nat} {L : List Value} (h : cvfB P src dst T L.length o = true) (hm : σ.m g = some (.typed T L)) (hk : k (.pointer (some ⟨g, o, none⟩)) σ) : kGen P (.cv src dst) [.pointer (some ⟨g, o, none⟩)] σ k := by
  intro w hw
  unfold cvfB at h
  split at h
  · rename_i u h1 h2
    simp only [Bool.and_eq_true, Option.isSome_iff_exists] at h
    obtain ⟨⟨j, hj⟩, hl⟩ := h
    have hh : w.heap[g]? = some (.cells L.toArray T (0, 0)) := hw.m g _ hm
    exact ⟨_, _, run_from_unsafe w ⟨g, o, none⟩ h1 h2 hj (e := T) (cells := L.length) (by simp [World.shape?, hh]) hl, Out.same hw hk⟩
  · cases h
/-- A pointer held against itself. -/
def neqB (P : Program) (t : TypeId) : Bool := match P.underlying t with | some (.pointer e) => (P.info? e).isSome | _ => false
theorem neq_by {t : TypeId} {x y : Operand} {p : Addr} (h : neqB P t = true) (hk : k (.bool false) σ) : kGen P (.bop .neq t x y) [.pointer (some p), .pointer (some p)] σ k := by
  intro w hw
  unfold neqB at h
  split at h
  · rename_i e h1
    simp only [Option.isSome_iff_exists] at h
    obtain ⟨j, hj⟩ := h
    refine ⟨_, _, ?_, Out.same hw hk⟩
    have hg : (eqGuard .neq t x y (.pointer (some p)) (.pointer (some p))).run P w = .ok () w := by
      simp [eqGuard]
    simp only [lkSem, Sem.run_bind, hg, Result.andThen_ok, run_neq_ptr_same w p h1 hj]
  · cases h
/-- unsafe.SliceData of a row of the walk's own. -/
def dataOf : Value → Value
  | .slice (some a) _ _ => .pointer (some a)
  | _ => .pointer none
theorem usd_by {ts : List TypeId} {ty : TypeId} (hown : OwnT σ e v t) (hk : k (dataOf v) σ) : kGen P (.blt .unsafeSliceData ts ty) [v] σ k := by
  intro w hw
  rcases hown with ⟨rfl, rfl⟩ | ⟨g, cap, sp, rfl, hm, hcl, hc0, hcm⟩
  · exact ⟨_, _, run_unsafeSliceData_nil (P := P) w ts.toArray ty 0 0, Out.same hw hk⟩
  · exact ⟨_, _, run_unsafeSliceData_row (P := P) w ts.toArray ty ⟨g, 0, none⟩ t.length cap (by omega), Out.same hw hk⟩
/-- unsafe.String of it: the row is let go. -/
def usB (P : Program) (pt e : TypeId) : Bool := match P.underlying pt with | some (.pointer e') => e' == e && P.cellsOf e == 1 | _ => false
theorem ust_by {pt it ty : TypeId} (h : usB P pt e = true) (hown : OwnT σ e v t) (h63 : t.length ≤ 9223372036854775807) (hk : ∀ σ', Chg (ownL v) σ σ' → k (.string (bs t)) σ') : kGen P (.blt .unsafeString [pt, it] ty) [dataOf v, .int .i64 t.length] σ k := by
  intro w hw
  have none_ : ∀ p, t = [] → ∃ v' w', (lkSem (.blt .unsafeString [pt, it] ty) [.pointer p, .int .i64 t.length]).run P w = .ok v' w' ∧ Out σ w k v' w' := by
    rintro p rfl
    exact ⟨_, _, run_unsafeString_none w pt it ty p, Out.same hw (hk σ (Chg.refl _ _))⟩
  rcases hown with ⟨rfl, h0⟩ | ⟨g, cap, sp, rfl, hm, hcl, hc0, hcm⟩
  · exact none_ _ h0
  · by_cases h0 : t = []
    · exact none_ _ h0
    · have hh : w.heap[g]? = some (.cells (byteCells t ++ sp).toArray e (0, 0)) := hw.m g _ hm
      unfold usB at h
      split at h
      · rename_i e' hp
        simp only [Bool.and_eq_true, beq_iff_eq] at h
        obtain ⟨rfl, hc⟩ := h
        have hr := run_unsafeString_row (P := P) w pt it ty e' hp hc g (byteCells t ++ sp).toArray.size (by simp [World.shape?, hh]) t h0 (by simp [byteCells_length]) h63 (fun j x hx => by
          rw [E.add_eq, cel (hw.blkT hm), Nat.zero_add, List.getElem?_append_left (by rw [byteCells_length]; exact (List.getElem?_eq_some_iff.1 hx).1)]
          simp [byteCells, hx])
        refine ⟨_, _, hr, ?_, σ.del g, ?_, ⟨Nat.le_refl _, fun k hk => .inl (fun h => hk (by
          by_cases e : k = g
          · subst e; exact del_eq
          · rw [del_ne e]; exact h))⟩, hk _ ((Chg.refl _ _).del (.inl (by simp [ownL])))⟩
        · unfold World.freeze
          split
          · exact KeepP.refl _ _
          · refine ⟨rfl, rfl, rfl, by simp [size], fun i hi hn => ?_⟩
            have : i ≠ g := by rintro rfl; exact hn (by unfold AS.live; rw [hm]; simp)
            simp only [Array.getElem?_modify]
            rw [if_neg (by intro h; exact this h.symm)]
        · unfold World.freeze
          split
          · refine hw.del g rfl (fun _ _ => rfl) (by rw [hm]; simp)
          · refine hw.del g (by simp [size]) (fun i hi => ?_) (by rw [hm]; simp)
            simp only [Array.getElem?_modify]
            rw [if_neg (by intro h; exact hi h.symm)]
      · cases h
end
end Go.Proofs.YtmgdkoidgoihfaaGreatDoor.E
