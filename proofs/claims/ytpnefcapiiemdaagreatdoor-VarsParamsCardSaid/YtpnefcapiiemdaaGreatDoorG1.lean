/- Arguments of any type that is made of numbers, bools, strings, structs and slices: what they hold, as data; the start of a law's walk. Conditions: as each theorem says. -/
import Derived.Test.YtpnefcapiiemdaaGreatDoorF6
import Derived.ChangeArms
import Derived.OpenShut
import Derived.ChangeShapes
import Derived.Lib.AppendStr
import Derived.Lib.UnsafeStr
import Derived.Lib.Builder
import Derived.Lib.Bytealg
import Derived.Maps.RangeRun
import Derived.MapKept
namespace Go.Proofs.YtpnefcapiiemdaaGreatDoor.E
open Go.RowKit Go.WideShapes

abbrev Ce := Nat → Nat → Option Value
def Ce.le (c c' : Ce) : Prop := ∀ b o v, c b o = some v → c' b o = some v
theorem Ce.le_refl (c : Ce) : c.le c := fun _ _ _ h => h
theorem Ce.le_trans {a b c : Ce} (h : a.le b) (k : b.le c) : a.le c := fun x y v e => k _ _ _ (h x y v e)

/-! ### A law begins -/
def start (w : World) : AS := ⟨fun _ => none, fun b o => w.cell? ⟨b, o, none⟩, size w, fun g h => absurd rfl h, fun b o h => by
  refine ⟨?_, rfl⟩
  cases hc : w.cell? ⟨b, o, none⟩ with
  | none => exact (h hc).elim
  | some v => exact block_lt_of_cell hc⟩
theorem sat_start (w : World) : Sat (start w) w := ⟨rfl, fun g ob h => (by cases h), fun b o v h => h⟩
theorem law_ok {P : Program} {f : Nat} {args : List Value} {w : World} (h : kCall P f args (start w) fun v _ => v = .bool true) : callP P f args w fun v w' => v = .bool true ∧ KeepP (fun _ => False) w w' :=
  callP_mono (h w (sat_start w)) fun v w' ⟨h1, _, _, _, h4⟩ => ⟨h4, ⟨h1.os, h1.tape, h1.output, h1.sz, fun k hk _ => h1.heap k hk (fun h => h rfl)⟩⟩
theorem KeepP.below {w w' : World} (h : KeepP (fun _ => False) w w') : Below w.heap.size w w' := ⟨h.os, h.tape, h.output, h.sz, fun k hk => h.heap k hk (fun h => h)⟩

/-! ### Data in cells that stay -/
/-- Strings; rows of bytes are none. -/
abbrev Str := List UInt8
class Rp (α : Type) where
  sz : Nat
  pos : 0 < sz
  rp : Ce → α → List Value → Prop
  len : ∀ {c a cs}, rp c a cs → cs.length = sz
  ok : ∀ {c a cs}, rp c a cs → cs.all okCell = true
  mono : ∀ {c c' a cs}, Ce.le c c' → rp c a cs → rp c' a cs
open Rp
def inI64 (n : Int) : Prop := -9223372036854775808 ≤ n ∧ n ≤ 9223372036854775807
instance : Rp Int := ⟨1, by decide, fun _ n cs => cs = [.int .i64 n] ∧ inI64 n, fun h => by rw [h.1]; rfl, fun h => by rw [h.1]; rfl, fun _ h => h⟩
instance : Rp UInt8 := ⟨1, by decide, fun _ n cs => cs = [.int .u8 n.toNat], fun h => by rw [h]; rfl, fun h => by rw [h]; rfl, fun _ h => h⟩
instance : Rp Bool := ⟨1, by decide, fun _ b cs => cs = [.bool b], fun h => by rw [h]; rfl, fun h => by rw [h]; rfl, fun _ h => h⟩
instance (priority := high) : Rp Str := ⟨1, by decide, fun _ s cs => cs = [.string (bs s)] ∧ List.length s ≤ maxLen, fun h => by rw [h.1]; rfl, fun h => by rw [h.1]; rfl, fun _ h => h⟩
instance {α β : Type} [Rp α] [Rp β] : Rp (α × β) := ⟨sz α + sz β, by have := pos (α := α); omega, fun c a cs => ∃ x y, cs = x ++ y ∧ rp c a.1 x ∧ rp c a.2 y,
  fun ⟨x, y, h, h1, h2⟩ => by rw [h, List.length_append, len h1, len h2], fun ⟨x, y, h, h1, h2⟩ => by rw [h, List.all_append, ok h1, ok h2]; rfl, fun hc ⟨x, y, h, h1, h2⟩ => ⟨x, y, h, mono hc h1, mono hc h2⟩⟩
/-- From place (b, o) on stand these, one behind the other. -/
def Row {α : Type} [Rp α] (c : Ce) (b o : Nat) (l : List α) : Prop := ∀ i (h : i < l.length), ∃ cs, rp c l[i] cs ∧ ∀ j v, cs[j]? = some v → c b (o + i * sz α + j) = some v
def RepL {α : Type} [Rp α] (c : Ce) (v : Value) (l : List α) : Prop := ∃ a cap, v = .slice a l.length cap ∧ l.length ≤ cap ∧ cap ≤ maxLen ∧ (l = [] ∨ ∃ b o, a = some ⟨b, o, none⟩ ∧ Row c b o l)
theorem Row.mono {α : Type} [Rp α] {c c' : Ce} {b o : Nat} {l : List α} (hc : c.le c') (h : Row c b o l) : Row c' b o l := fun i hi => by
  obtain ⟨cs, h1, h2⟩ := h i hi
  exact ⟨cs, Rp.mono hc h1, fun j v hv => hc _ _ _ (h2 j v hv)⟩
theorem RepL.mono {α : Type} [Rp α] {c c' : Ce} {v : Value} {l : List α} (hc : c.le c') (h : RepL c v l) : RepL c' v l := by
  obtain ⟨a, cap, h1, h2, h3, h4⟩ := h
  refine ⟨a, cap, h1, h2, h3, ?_⟩
  rcases h4 with h4 | ⟨b, o, h5, h6⟩
  · exact .inl h4
  · exact .inr ⟨b, o, h5, h6.mono hc⟩
instance {α : Type} [Rp α] : Rp (List α) := ⟨1, by decide, fun c l cs => ∃ v, cs = [v] ∧ RepL c v l, fun ⟨v, h, _⟩ => by rw [h]; rfl, fun ⟨v, h, h2⟩ => by
    obtain ⟨a, cap, h3, _⟩ := h2
    rw [h, h3]; rfl, fun hc ⟨v, h, h2⟩ => ⟨v, h, h2.mono hc⟩⟩
section
variable {α β : Type} [Rp α] [Rp β] {c : Ce} {σ : AS} {v : Value} {l : List α}
theorem Row.lds {b o : Nat} (h : Row σ.c b o l) (i : Nat) (hi : i < l.length) : ∃ cs, rp σ.c l[i] cs ∧ ldsS σ b (o + i * sz α) (sz α) = some cs := by
  obtain ⟨cs, h1, h2⟩ := h i hi
  refine ⟨cs, h1, ?_⟩
  have hl := len h1
  have key : ∀ (cs : List Value) (n o : Nat), cs.length = n → (∀ j v, cs[j]? = some v → σ.c b (o + j) = some v) → ldsS σ b o n = some cs := by
    intro cs
    induction cs with
    | nil => intro n o hn _; simp at hn; subst hn; rfl
    | cons v r ih =>
      intro n o hn hc
      simp at hn
      subst hn
      have h0 := hc 0 v rfl
      simp only [ldsS, Nat.add_zero] at h0 ⊢
      rw [ld_c h0, Option.bind_some, ih r.length (o + 1) rfl (fun j u hu => by
        have := hc (j + 1) u (by simpa using hu)
        rw [show o + 1 + j = o + (j + 1) from by omega]; exact this)]
      rfl
  exact key cs _ _ hl (fun j v hv => by
    have := h2 j v hv
    exact this)
/-- One cell of an element. -/
theorem Row.cell {b o : Nat} (h : Row σ.c b o l) (i : Nat) (hi : i < l.length) : ∃ cs, rp σ.c l[i] cs ∧ cs.length = sz α ∧ ∀ j v, cs[j]? = some v → σ.ld b (o + i * sz α + j) = some v := by
  obtain ⟨cs, h1, h2⟩ := h i hi
  exact ⟨cs, h1, len h1, fun j v hv => ld_c (h2 j v hv)⟩
end

/-! ### What an argument's reading says -/
/-- The shape of a type's cells. -/
inductive Sh where
  | any | int (k : IntKind) | bool | str | slice (e : Sh) (sz : Nat) | fld (n : Nat) (s r : Sh) | fin
def consec (P : Program) (total : Nat) : Nat → List Field → Bool
  | o, [] => o == total
  | o, f :: r => f.offset == o && consec P total (o + P.cellsOf f.type) r
def shOf (P : Program) : Nat → TypeId → Sh
  | 0, _ => .any
  | n + 1, t =>
    match P.underlying t with
    | some .bool => .bool
    | some (.int k) => .int k
    | some .string => .str
    | some (.slice e) => if 0 < P.cellsOf e then .slice (shOf P n e) (P.cellsOf e) else .any
    | some (.struct fs) => if consec P (P.cellsOf t) 0 fs.toList then fs.toList.foldr (fun f r => .fld (P.cellsOf f.type) (shOf P n f.type) r) .fin else .any
    | some (.array m e) => if m * P.cellsOf e = P.cellsOf t ∧ m ≤ 64 then (List.replicate m e).foldr (fun e r => .fld (P.cellsOf e) (shOf P n e) r) .fin else .any
    | _ => .any
/-- n elements of sz cells each, element i's cells are f i: where there is an element at all. -/
def Arr (c : Ce) (a : Option Addr) (n sz : Nat) (f : Nat → List Value) : Prop :=
  n = 0 ∨ ∃ b o, a = some ⟨b, o, none⟩ ∧ ∀ i, i < n → ∀ j v, (f i)[j]? = some v → c b (o + i * sz + j) = some v
def RD (c : Ce) : Sh → List Value → Prop
  | .any, _ => True
  | .int k, cs => ∃ n, cs = [.int k n] ∧ (Lit.int k n).wf = true
  | .bool, cs => ∃ b, cs = [.bool b]
  | .str, cs => ∃ l, cs = [.string (bs l)] ∧ l.length ≤ maxLen
  | .slice e sz, cs => ∃ a n cap f, cs = [.slice a n cap] ∧ n ≤ cap ∧ cap ≤ maxLen ∧ Arr c a n sz f ∧ ∀ i, i < n → (f i).length = sz ∧ RD c e (f i)
  | .fld n s r, cs => ∃ x y, cs = x ++ y ∧ x.length = n ∧ RD c s x ∧ RD c r y
  | .fin, cs => cs = []
def OV (c : Ce) (s : Sh) (v : Value) : Prop := match s with
  | .any => True
  | .fld n s r => ∃ cs, v = .agg cs.toArray ∧ RD c (.fld n s r) cs
  | .fin => ∃ cs, v = .agg cs.toArray ∧ RD c .fin cs
  | s => RD c s [v]
section
variable {H : Type} {enc : TypeId × Value → H} {P : Program} {w w' : World} {base : Nat} {spare : Nat → Bool} {held : Bool}
theorem arr_of_cells {a : Addr} {n sz : Nat} {g : Nat → List Value} (h : ∀ i, i < n → w.cells? base (a.add (i * sz)) sz = some (g i)) (hsz : 0 < sz) : Arr (start w).c (some a) n sz g ∧ ∀ i, i < n → (g i).length = sz := by
  have hlen : ∀ i, i < n → (g i).length = sz := by
    intro i hi
    exact (World.cells?_some (h i hi)).2.1
  refine ⟨?_, hlen⟩
  rcases Nat.eq_zero_or_pos n with h0 | h0
  · exact .inl h0
  · have h1 := (World.cells?_some (h 0 h0)).2.2 0 hsz
    have hg : ∃ v, (g 0)[0]? = some v := ⟨(g 0)[0]'(by rw [hlen 0 h0]; exact hsz), by simp⟩
    obtain ⟨v, hv⟩ := hg
    rw [hv] at h1
    have hx : (a.add (0 * sz)).add 0 = a := by unfold Addr.add; simp
    rw [hx] at h1
    have hsp : a.spot = none := by
      cases hs : a.spot with
      | none => rfl
      | some s =>
        unfold World.cell? at h1
        rw [hs] at h1
        split at h1 <;> simp at h1
    have hxe : a = ⟨a.block, a.off, none⟩ := by cases a; simp_all
    refine .inr ⟨a.block, a.off, by rw [← hxe], ?_⟩
    intro i hi j v hv
    have hj : j < sz := by
      have := (List.getElem?_eq_some_iff.1 hv).1
      rwa [hlen i hi] at this
    have := (World.cells?_some (h i hi)).2.2 j hj
    rw [hxe, add_eq, add_eq, hv] at this
    exact this

theorem rd_of_trod : ∀ (n : Nat) (t : TypeId) (fuel : Nat) (cs : List Value) (x : DataW H × List MemPlace), DataW.trod enc P w base spare held fuel t cs = some x → RD (start w).c (shOf P n t) cs
  | 0, _, _, _, _, _ => trivial
  | n + 1, t, fuel, cs, x, h => by
    unfold shOf
    split
    · rename_i ht
      obtain ⟨b, hb, _⟩ := DataW.trod_bool ht h
      exact ⟨b, hb⟩
    · rename_i k ht
      obtain ⟨m, hm, _, hw⟩ := DataW.trod_int ht h
      exact ⟨m, hm, hw⟩
    · rename_i ht
      obtain ⟨s, hs, _, hl⟩ := DataW.trod_string ht h
      exact ⟨s.data.toList, by rw [hs, ← bs_of], by simpa [ByteArray.size_data] using hl⟩
    · rename_i e ht
      split
      rotate_left
      · trivial
      rename_i h0
      rcases DataW.trod_slice ht h with ⟨hcs, _⟩ | ⟨a, len, cap, elems, rest, m, _, hcs, _, _, hl, hc, hel, hall, _⟩
      · exact ⟨none, 0, 0, fun _ => [], hcs, Nat.le_refl _, Nat.zero_le _, .inl rfl, fun i hi => by omega⟩
      · have hget : ∀ i, i < len → ∃ c y, w.cells? base (a.add (i * P.cellsOf e)) (P.cellsOf e) = some c ∧ DataW.trod enc P w base spare held m e c = some y := by
          intro i hi
          have h1 := hall i hi
          have h2 : ∃ y, elems[i]? = some y := ⟨elems[i]'(by omega), by simp⟩
          obtain ⟨y, hy⟩ := h2
          rw [hy, Option.bind_eq_some_iff] at h1
          obtain ⟨c, hc1, hc2⟩ := h1
          exact ⟨c, y, hc1, hc2⟩
        have hg : ∀ i, i < len → w.cells? base (a.add (i * P.cellsOf e)) (P.cellsOf e) = some ((w.cells? base (a.add (i * P.cellsOf e)) (P.cellsOf e)).getD []) := by
          intro i hi
          obtain ⟨c, y, h1, _⟩ := hget i hi
          rw [h1]; rfl
        have hrd : ∀ i, i < len → RD (start w).c (shOf P n e) ((w.cells? base (a.add (i * P.cellsOf e)) (P.cellsOf e)).getD []) := by
          intro i hi
          obtain ⟨c, y, h1, h2⟩ := hget i hi
          rw [h1]
          exact rd_of_trod n e m c y h2
        obtain ⟨h1, h2⟩ := arr_of_cells hg h0
        exact ⟨some a, len, cap, _, hcs, hl, hc, h1, fun i hi => ⟨h2 i hi, hrd i hi⟩⟩
    · rename_i fs ht
      split
      · rename_i hc
        obtain ⟨xs, m, _, _, hl, hxl, hall⟩ := DataW.trod_struct ht h
        have key : ∀ (l : List Field) (o : Nat) (cs' : List Value), consec P (P.cellsOf t) o l = true → cs' = cs.drop o → (∀ f ∈ l, ∃ y, DataW.trod enc P w base spare held m f.type ((cs.drop f.offset).take (P.cellsOf f.type)) = some y) →
            RD (start w).c (l.foldr (fun f r => .fld (P.cellsOf f.type) (shOf P n f.type) r) .fin) cs' := by
          intro l
          induction l with
          | nil =>
            intro o cs' hc he _
            simp only [consec, beq_iff_eq] at hc
            subst hc
            rw [he, List.drop_eq_nil_of_le (by omega)]
            rfl
          | cons f r ih =>
            intro o cs' hc he hf
            simp only [consec, Bool.and_eq_true, beq_iff_eq] at hc
            obtain ⟨y, hy⟩ := hf f (by simp)
            subst he
            rw [hc.1] at hy
            have hle : ∀ (l : List Field) (o : Nat), consec P (P.cellsOf t) o l = true → o ≤ P.cellsOf t := by
              intro l
              induction l with
              | nil => intro o h; simp only [consec, beq_iff_eq] at h; omega
              | cons f r ih => intro o h; simp only [consec, Bool.and_eq_true] at h; have := ih _ h.2; omega
            have h2 := hle r _ hc.2
            refine ⟨(cs.drop o).take (P.cellsOf f.type), (cs.drop o).drop (P.cellsOf f.type), (List.take_append_drop _ _).symm, by simp; omega, rd_of_trod n _ _ _ _ hy, ?_⟩
            exact ih (o + P.cellsOf f.type) _ hc.2 (by rw [List.drop_drop]) (fun f' hf' => hf f' (by simp [hf']))
        refine key fs.toList 0 cs hc (by simp) ?_
        intro f hf
        obtain ⟨i, hi, rfl⟩ := List.getElem_of_mem hf
        have hi' : i < fs.size := by simpa using hi
        have := hall i fs[i] (by simp [hi'])
        exact ⟨xs[i]'(by omega), by simpa [hi', hxl] using this⟩
      · trivial
    · rename_i m0 e ht
      split
      · rename_i hc
        obtain ⟨hc, _⟩ := hc
        obtain ⟨xs, m, _, _, hl, hxl, hall⟩ := DataW.trod_array ht h
        have key : ∀ (k i : Nat) (cs' : List Value), i + k = m0 → cs' = cs.drop (i * P.cellsOf e) →
            RD (start w).c ((List.replicate k e).foldr (fun e r => .fld (P.cellsOf e) (shOf P n e) r) .fin) cs' := by
          intro k
          induction k with
          | zero =>
            intro i cs' hi he
            obtain rfl : i = m0 := by omega
            show cs' = []
            rw [he, List.drop_eq_nil_of_le (by omega)]
          | succ k ih =>
            intro i cs' hi he
            subst he
            have h1 := hall i (by omega)
            rw [List.getElem?_eq_getElem (by omega)] at h1
            have h2 : i * P.cellsOf e + P.cellsOf e ≤ cs.length := by
              rw [hl, ← hc]
              have : (i + 1) * P.cellsOf e ≤ m0 * P.cellsOf e := Nat.mul_le_mul_right _ (by omega)
              rw [Nat.succ_mul] at this
              exact this
            refine ⟨(cs.drop (i * P.cellsOf e)).take (P.cellsOf e), (cs.drop (i * P.cellsOf e)).drop (P.cellsOf e), (List.take_append_drop _ _).symm, by rw [List.length_take, List.length_drop]; omega, rd_of_trod n _ _ _ _ h1, ?_⟩
            exact ih (i + 1) _ (by omega) (by rw [List.drop_drop, Nat.succ_mul])
        exact key m0 0 cs (by omega) (by simp)
      · trivial
    · trivial
theorem ov_of {r : Reach} {b0 : Nat} {t : TypeId} {v : Value} {d : DataW H} {ps : List MemPlace} (n : Nat) (hval : Value.okWide P w r b0 t v) (h : DataW.Trod enc P w base spare held t v d ps) : OV (start w).c (shOf P n t) v := by
  obtain ⟨fuel, hf⟩ := h
  have h1 := rd_of_trod n t fuel _ _ hf
  cases n with
  | zero => trivial
  | succ n =>
    unfold shOf at h1 ⊢
    split at h1
    · rename_i ht; obtain ⟨b, rfl⟩ := okWide_bool ht hval; exact h1
    · rename_i k ht; obtain ⟨b, rfl⟩ := okWide_int ht hval; exact h1
    · rename_i ht; obtain ⟨b, rfl⟩ := okWide_string ht hval; exact h1
    · rename_i e ht; obtain ⟨a, b, c, rfl⟩ := okWide_slice ht hval; split at h1
      · rename_i hc; rw [if_pos hc]; exact h1
      · rename_i hc; rw [if_neg hc]; trivial
    · rename_i fs ht
      obtain ⟨cs, rfl, _⟩ := okWide_struct ht hval
      split at h1
      · rename_i hc
        rw [if_pos hc]
        have e : (Value.agg cs).cells.toList = cs.toList := rfl
        rw [e] at h1
        cases hfs : fs.toList with
        | nil => rw [hfs] at h1; exact ⟨cs.toList, by simp, h1⟩
        | cons f r => rw [hfs] at h1; exact ⟨cs.toList, by simp, h1⟩
      · rename_i hc; rw [if_neg hc]; trivial
    · rename_i m0 e ht
      have hval' := hval
      simp only [Value.okWide, ht] at hval'
      obtain ⟨cs, rfl, _⟩ := hval'
      split at h1
      · rename_i hc
        rw [if_pos hc]
        have e' : (Value.agg cs).cells.toList = cs.toList := rfl
        rw [e'] at h1
        cases m0 with
        | zero => exact ⟨cs.toList, by simp, h1⟩
        | succ m0 => exact ⟨cs.toList, by simp, h1⟩
      · rename_i hc; rw [if_neg hc]; trivial
    · trivial
end
/-! ### From a reading to data -/
class OfSh (α : Type) [Rp α] (s : Sh) : Prop where
  of : ∀ {c cs}, RD c s cs → ∃ a : α, rp c a cs
theorem wf_i64 {n : Int} (h : (Lit.int .i64 n).wf = true) : inI64 n := by
  simp [Lit.wf, IntKind.min, IntKind.max, IntKind.signed, IntKind.bits] at h
  unfold inI64; omega
theorem wf_u8 {n : Int} (h : (Lit.int .u8 n).wf = true) : 0 ≤ n ∧ n ≤ 255 := by
  simp [Lit.wf, IntKind.min, IntKind.max, IntKind.signed, IntKind.bits] at h
  omega
instance : OfSh Int (.int .i64) := ⟨fun ⟨n, h, hw⟩ => ⟨n, h, wf_i64 hw⟩⟩
instance : OfSh UInt8 (.int .u8) := ⟨fun ⟨n, h, hw⟩ => ⟨UInt8.ofNat n.toNat, by
  have := wf_u8 hw
  show _ = [Value.int .u8 (UInt8.ofNat n.toNat).toNat]
  have e : (((UInt8.ofNat n.toNat).toNat : Nat) : Int) = n := by simp; omega
  rw [h, e]⟩⟩
instance : OfSh Bool .bool := ⟨fun ⟨b, h⟩ => ⟨b, h⟩⟩
instance : OfSh Str .str := ⟨fun ⟨l, h, hl⟩ => ⟨l, h, hl⟩⟩
instance ofLast {α : Type} [Rp α] {n : Nat} {s : Sh} [h : OfSh α s] : OfSh α (.fld n s .fin) := ⟨fun ⟨x, y, h1, _, h3, h4⟩ => by
  have h4 : y = [] := h4
  subst h4
  rw [h1, List.append_nil]
  exact h.of h3⟩
instance ofPair {α β : Type} [Rp α] [Rp β] {n : Nat} {s r : Sh} [h : OfSh α s] [k : OfSh β r] : OfSh (α × β) (.fld n s r) := ⟨fun ⟨x, y, h1, _, h3, h4⟩ => by
  obtain ⟨a, ha⟩ := h.of h3
  obtain ⟨b, hb⟩ := k.of h4
  exact ⟨(a, b), x, y, h1, ha, hb⟩⟩
class SzIs (α : Type) [Rp α] (m : outParam Nat) : Prop where
  h : sz α = m
instance : SzIs Int 1 := ⟨rfl⟩
instance : SzIs UInt8 1 := ⟨rfl⟩
instance : SzIs Bool 1 := ⟨rfl⟩
instance : SzIs Str 1 := ⟨rfl⟩
instance {α : Type} [Rp α] : SzIs (List α) 1 := ⟨rfl⟩
instance {α β : Type} [Rp α] [Rp β] {m n : Nat} [h : SzIs α m] [k : SzIs β n] : SzIs (α × β) (m + n) := ⟨by show sz α + sz β = _; rw [h.h, k.h]⟩
theorem list_of {α : Type} {n : Nat} {p : Nat → α → Prop} (h : ∀ i, i < n → ∃ a, p i a) : ∃ l : List α, l.length = n ∧ ∀ i (hi : i < l.length), p i l[i] := by
  induction n with
  | zero => exact ⟨[], rfl, fun i hi => by simp at hi⟩
  | succ n ih =>
    obtain ⟨l, hl, hp⟩ := ih (fun i hi => h i (by omega))
    obtain ⟨a, ha⟩ := h n (by omega)
    refine ⟨l ++ [a], by simp [hl], fun i hi => ?_⟩
    by_cases e : i < l.length
    · rw [List.getElem_append_left e]; exact hp i e
    · simp at hi
      have : i = n := by omega
      subst this
      rw [List.getElem_append_right (by omega)]
      simpa [hl] using ha
instance ofSlice {α : Type} [Rp α] {e : Sh} {m : Nat} [h : OfSh α e] [hm : SzIs α m] : OfSh (List α) (.slice e m) := ⟨fun ⟨a, n, cap, f, h1, h2, h3, h4, h5⟩ => by
  obtain ⟨l, hl, hp⟩ := list_of (n := n) (p := fun i x => rp _ x (f i)) (fun i hi => h.of (h5 i hi).2)
  refine ⟨l, _, h1, a, cap, by rw [hl], by omega, h3, ?_⟩
  rcases h4 with h4 | ⟨b, o, h6, h7⟩
  · exact .inl (List.eq_nil_of_length_eq_zero (by omega))
  · exact .inr ⟨b, o, h6, fun i hi => ⟨f i, hp i hi, fun j v hv => by rw [hm.h]; exact h7 i (by omega) j v hv⟩⟩⟩
theorem arg_list {α : Type} [Rp α] {c : Ce} {v : Value} {e : Sh} {m : Nat} [OfSh α e] [SzIs α m] (h : OV c (.slice e m) v) : ∃ l : List α, RepL c v l := by
  obtain ⟨l, u, h1, h2⟩ := OfSh.of (α := List α) (s := .slice e m) h
  injection h1 with h1
  subst h1
  exact ⟨l, h2⟩
theorem arg_agg {α : Type} [Rp α] {c : Ce} {v : Value} {n : Nat} {s r : Sh} [OfSh α (.fld n s r)] (h : OV c (.fld n s r) v) : ∃ (a : α) (cs : List Value), v = .agg cs.toArray ∧ rp c a cs := by
  obtain ⟨cs, h1, h2⟩ := h
  obtain ⟨a, ha⟩ := OfSh.of (α := α) (s := .fld n s r) h2
  exact ⟨a, cs, h1, ha⟩
theorem arg_int {c : Ce} {v : Value} (h : OV c (.int .i64) v) : ∃ n, v = .int .i64 n ∧ inI64 n := by
  obtain ⟨n, h1, h2⟩ := h
  injection h1 with h1
  exact ⟨n, h1, wf_i64 h2⟩
theorem arg_bool {c : Ce} {v : Value} (h : OV c .bool v) : ∃ b, v = .bool b := by
  obtain ⟨b, h1⟩ := h
  injection h1 with h1
  exact ⟨b, h1⟩
theorem arg_str {c : Ce} {v : Value} (h : OV c .str v) : ∃ l, v = .string (bs l) ∧ l.length ≤ maxLen := by
  obtain ⟨l, h1, h2⟩ := h
  injection h1 with h1
  exact ⟨l, h1, h2⟩
end Go.Proofs.YtpnefcapiiemdaaGreatDoor.E

/- Rows of bytes that keep their type; entries of Go's own; strings out of rows. Conditions: as each theorem says. -/
namespace Go.Proofs.YtpnefcapiiemdaaGreatDoor.E
open Go.RowKit Go.Lib

/-- v is a slice of the walk's own, of type e's elements, the bytes t. -/
def OwnT (σ : AS) (e : TypeId) (v : Value) (t : List UInt8) : Prop :=
  (v = .slice none 0 0 ∧ t = []) ∨
  ∃ g c sp, v = .slice (some ⟨g, 0, none⟩) t.length c ∧ σ.m g = some (.typed e (byteCells t ++ sp)) ∧ t.length + sp.length = c ∧ 0 < c ∧ c ≤ maxLen
section
variable {P : Program} {a b σ σ' : AS} {w : World} {k : Value → AS → Prop} {S T : List Nat} {v : Value} {e : TypeId} {t s : List UInt8}
theorem OwnT.nil (σ : AS) (e : TypeId) : OwnT σ e (.slice none 0 0) [] := .inl ⟨rfl, rfl⟩
theorem OwnT.lt (h : OwnT σ e v t) {g : Nat} (hg : g ∈ ownL v) : g < σ.n := by
  rcases h with ⟨rfl, _⟩ | ⟨g', c, sp, rfl, hm, _⟩
  · simp [ownL] at hg
  · simp [ownL] at hg
    subst hg
    exact σ.lt hm
theorem OwnT.chg (h : OwnT σ e v t) (k : Chg S σ σ') (hn : ∀ g, g ∈ ownL v → g ∉ S) : OwnT σ' e v t := by
  rcases h with h | ⟨g, c, sp, rfl, hm, r⟩
  · exact .inl h
  · exact .inr ⟨g, c, sp, rfl, (k.m g (σ.lt hm) (hn g (by simp [ownL]))).trans hm, r⟩
theorem OwnT.val (h : OwnT σ e v t) : ∃ x c, v = .slice x t.length c ∧ t.length ≤ c := by
  rcases h with ⟨rfl, rfl⟩ | ⟨g, c, sp, rfl, _, hc, _⟩
  · exact ⟨none, 0, rfl, Nat.le_refl _⟩
  · exact ⟨_, c, rfl, by omega⟩
theorem OwnT.ok (h : OwnT σ e v t) : okCell v = true := by
  rcases h with ⟨rfl, rfl⟩ | ⟨g, c, sp, rfl, _⟩ <;> rfl
theorem OwnV.ok {n sz : Nat} {xs : List Value} (h : OwnV σ v n sz xs) : okCell v = true := by
  rcases h with ⟨rfl, _⟩ | ⟨g, c, sp, rfl, _⟩ <;> rfl
theorem Chg.wide (h : Chg S a σ) (hT : ∀ i, i ∈ S → i ∈ T) : Chg T a σ := ⟨h.n, fun g hg hn => h.m g hg (fun hs => hn (hT g hs)), h.c⟩
/-- A type of bytes. -/
def byteB (P : Program) (e : TypeId) : Bool :=
  match P.info? e with
  | some i => i.size == 1 && i.bytes == 1 && (match i.zero with | some (.int .u8 0) => true | _ => false)
  | none => false
theorem byteB_ok (h : byteB P e = true) : ∃ i, P.info? e = some i ∧ i.zero = some (.int .u8 0) ∧ i.size = 1 ∧ i.bytes = 1 := by
  unfold byteB at h
  split at h
  · rename_i i hi
    simp only [Bool.and_eq_true, beq_iff_eq] at h
    refine ⟨i, hi, ?_, h.1.1, h.1.2⟩
    obtain ⟨_, h2⟩ := h
    split at h2
    · assumption
    · cases h2
  · cases h
theorem strCells_bs (s : List UInt8) : strCells (bs s) = byteCells s := by simp [strCells, byteCells, bs]
theorem sat_grown (hw : Sat σ w) (news : List Value) (e : TypeId) (n old : Nat) : Sat (σ.new (.typed e (news ++ (Builtin.zeroCells (Value.int .u8 0).cells (grownCap w n old e - n)).toList))) (w.drew.alloc (.cells (news.toArray ++ Builtin.zeroCells (Value.int .u8 0).cells (grownCap w n old e - n)) e)) := by
  refine hw.drew.new_ (ob := .typed e _) (fun w' he => ?_)
  show w'.heap[σ.n]? = _
  rw [he]
  congr 2
  apply Array.toList_inj.1
  simp
/-- A string is laid behind. -/
theorem appS_by {tt u : TypeId} (ht : P.underlying tt = some (.slice e)) (hu : P.underlying u = some .string) (hi : byteB P e = true) (hown : OwnT σ e v t) (hlen : t.length + s.length ≤ 140737488355328)
    (hk : ∀ v' σ', OwnT σ' e v' (t ++ s) → Chg (ownL v) σ σ' → (∀ g, g ∈ ownL v' → g ∈ ownL v ∨ g = σ.n) → k v' σ') : kApp P tt u v (.string (bs s)) σ k := by
  obtain ⟨i, hi1, hi2, hi3, hi4⟩ := byteB_ok hi
  intro w hw
  have hz : w.heap.size = σ.n := hw.sz
  have hmx : ∀ n, n ≤ 140737488355328 → n ≤ maxLen := fun n h => by unfold maxLen; omega
  have grown : ∀ old, old < t.length + s.length →
      Out σ w k (.slice (some ⟨w.heap.size, 0, none⟩) (t.length + s.length) (grownCap w (t.length + s.length) old e)) (w.drew.alloc (.cells ((byteCells (t ++ s)).toArray ++ Builtin.zeroCells (Value.int .u8 0).cells (grownCap w (t.length + s.length) old e - (t.length + s.length))) e)) := by
    intro old ho
    have hge := grownCap_ge w (t.length + s.length) old e
    have hcm : grownCap w (t.length + s.length) old e ≤ maxLen := grownCap_le_maxLen w (t.length + s.length) old e (hmx _ hlen)
    refine ⟨KeepP.drew_alloc _ _ _, _, sat_grown hw (byteCells (t ++ s)) e _ old, Fol.new _ _, ?_⟩
    rw [hz]
    refine hk _ _ (.inr ⟨σ.n, _, _, by rw [List.length_append], by rw [new_eq_], ?_, by omega, hcm⟩) ((Chg.refl _ _).new _) (fun g hg => .inr (by simpa [ownL] using hg))
    have hz1 : (Value.int IntKind.u8 0).cells.size = 1 := rfl
    simp only [List.length_append, Array.length_toList, size_zeroCells, hz1]
    omega
  rcases hown with ⟨rfl, rfl⟩ | ⟨g, cap, sp, rfl, hm, hcl, hc0, hcm⟩
  · by_cases h0 : s = []
    · subst h0
      refine ⟨.slice none 0 0, w, ?_, KeepP.refl _ _, σ, hw, Fol.refl _, hk _ _ (.inl ⟨rfl, rfl⟩) (Chg.refl _ _) (fun g hg => .inl hg)⟩
      have hf := run_firstCells_string (P := P) w 1 (bs [])
      have hs0 : (bs []).size = 0 := rfl
      rw [hs0] at hf
      simp [Builtin.append_, run_underlying ht, run_underlying hu, sizeOf, typeInfo, hi1, hi3, Builtin.lenOf, hs0, hf]
    · have hp : 0 < s.length := by cases s with | nil => exact absurd rfl h0 | cons => simp
      have hr := run_append_nil_string (P := P) w tt u 0 e i (.int .u8 0) ht hu hi1 hi2 (bs s) (by rw [bs_size]; exact hp) (by rw [bs_size]; simp only [List.length_nil] at hlen; omega) (by rw [bs_size, hi4]; simp only [List.length_nil] at hlen; omega)
      have hg := grown 0 (by simp only [List.length_nil]; omega)
      simp only [List.length_nil, Nat.zero_add, List.nil_append] at hg
      have e1 : ((bs s).data.map fun b => Value.int .u8 b.toNat) = (byteCells s).toArray := by
        apply Array.ext'
        simp [byteCells, bs]
      rw [bs_size, e1] at hr
      exact ⟨_, _, hr, hg⟩
  · have hh : w.heap[g]? = some (.cells (byteCells t ++ sp).toArray e (0, 0)) := hw.m g _ hm
    have hb := hw.blkT hm
    by_cases hroom : t.length + s.length ≤ cap
    · have hr := run_append_room_string (P := P) w tt u 0 e i ht hu hi1 hi3 g t.length cap _ hh (bs s) (by rw [bs_size]; exact hroom) (by rw [bs_size, List.size_toArray, List.length_append, byteCells_length]; omega)
      rw [bs_size, strCells_bs, put_row hb] at hr
      refine ⟨_, _, hr, KeepP.put_ (by unfold AS.live; rw [hm]; simp) _, _, hw.putT hm _, Fol.put _ _ _, ?_⟩
      have e1 : (byteCells t ++ sp).toArray.toList.take t.length ++ byteCells s ++ (byteCells t ++ sp).toArray.toList.drop (t.length + s.length) = byteCells (t ++ s) ++ sp.drop s.length := by
        have : t.length = (byteCells t).length := (byteCells_length t).symm
        rw [this, ← List.drop_drop]
        simp only [List.take_left, List.drop_left, byteCells_append]
      rw [e1]
      refine hk _ _ (.inr ⟨g, cap, sp.drop s.length, by rw [List.length_append], by rw [put_eq, hm]; rfl, ?_, hc0, hcm⟩) ((Chg.refl _ _).put (.inl (by simp [ownL])) _) (fun g' hg' => .inl (by simpa [ownL] using hg'))
      simp only [List.length_append, List.length_drop]
      omega
    · have holds : ∀ j u, (byteCells t)[j]? = some u → w.cell? ((⟨g, 0, none⟩ : Addr).add j) = some u := fun j u hu => by
        rw [E.add_eq, cel hb, List.getElem?_append_left (by have := (List.getElem?_eq_some_iff.1 hu).1; omega), Nat.zero_add]; exact hu
      have hr := run_append_grow_string (P := P) w tt u 0 e i (.int .u8 0) ht hu hi1 hi2 ⟨g, 0, none⟩ t.length cap (byteCells t) (by rw [hi3, byteCells_length, Nat.mul_one]) holds (bs s) (by rw [bs_size]; omega) (by rw [bs_size]; omega) (by rw [bs_size]; exact growslice_fits (by omega) (by rw [hi4]; omega))
      have hg := grown cap (by omega)
      rw [bs_size, strCells_bs] at hr
      rw [byteCells_append, ← List.append_toArray] at hg
      exact ⟨_, _, hr, hg⟩
/-- Bytes are laid behind. -/
theorem appT_by {tt : TypeId} {bb o c : Nat} (ht : P.underlying tt = some (.slice e)) (hi : byteB P e = true) (hown : OwnT σ e v t) (hn : ldsS σ bb o s.length = some (byteCells s)) (hlen : t.length + s.length ≤ 140737488355328)
    (hk : ∀ v' σ', OwnT σ' e v' (t ++ s) → Chg (ownL v) σ σ' → (∀ g, g ∈ ownL v' → g ∈ ownL v ∨ g = σ.n) → k v' σ') : kApp P tt tt v (.slice (some ⟨bb, o, none⟩) s.length c) σ k := by
  obtain ⟨i, hi1, hi2, hi3, hi4⟩ := byteB_ok hi
  intro w hw
  have hz : w.heap.size = σ.n := hw.sz
  have hmx : ∀ n, n ≤ 140737488355328 → n ≤ maxLen := fun n h => by unfold maxLen; omega
  have hcell : ∀ j u, (byteCells s)[j]? = some u → w.cell? ((⟨bb, o, none⟩ : Addr).add j) = some u := fun j u hu => by
    rw [E.add_eq]; exact cells_of_lds hw (b := bb) (o := o) hn j u hu
  have hok : ∀ u ∈ byteCells s, u.oneCell' = true := fun u hu => by
    simp only [byteCells, List.mem_map] at hu
    obtain ⟨b, _, rfl⟩ := hu
    rfl
  have grown : ∀ old, old < t.length + s.length →
      Out σ w k (.slice (some ⟨w.heap.size, 0, none⟩) (t.length + s.length) (grownCap w (t.length + s.length) old e)) (w.drew.alloc (.cells ((byteCells (t ++ s)).toArray ++ Builtin.zeroCells (Value.int .u8 0).cells (grownCap w (t.length + s.length) old e - (t.length + s.length))) e)) := by
    intro old ho
    have hge := grownCap_ge w (t.length + s.length) old e
    have hcm : grownCap w (t.length + s.length) old e ≤ maxLen := grownCap_le_maxLen w (t.length + s.length) old e (hmx _ hlen)
    refine ⟨KeepP.drew_alloc _ _ _, _, sat_grown hw (byteCells (t ++ s)) e _ old, Fol.new _ _, ?_⟩
    rw [hz]
    refine hk _ _ (.inr ⟨σ.n, _, _, by rw [List.length_append], by rw [new_eq_], ?_, by omega, hcm⟩) ((Chg.refl _ _).new _) (fun g hg => .inr (by simpa [ownL] using hg))
    have hz1 : (Value.int IntKind.u8 0).cells.size = 1 := rfl
    simp only [List.length_append, Array.length_toList, size_zeroCells, hz1]
    omega
  rcases hown with ⟨rfl, rfl⟩ | ⟨g, cap, sp, rfl, hm, hcl, hc0, hcm⟩
  · by_cases h0 : s = []
    · subst h0
      refine ⟨.slice none 0 0, w, ?_, KeepP.refl _ _, σ, hw, Fol.refl _, hk _ _ (.inl ⟨rfl, rfl⟩) (Chg.refl _ _) (fun g hg => .inl hg)⟩
      simp [Builtin.append_, run_underlying ht, sizeOf, typeInfo, hi1, Builtin.lenOf, Builtin.firstCells, loadCells, loadCellsFrom]
    · have hp : 0 < s.length := by cases s with | nil => exact absurd rfl h0 | cons => simp
      have hr := run_append_nil (P := P) w tt 0 e i (.int .u8 0) ht hi1 hi2 ⟨bb, o, none⟩ s.length c (byteCells s) (by rw [byteCells_length, hi3, Nat.mul_one]) hcell (by omega) (by simp only [List.length_nil] at hlen; omega) (by rw [hi4]; simp only [List.length_nil] at hlen; omega)
      have hg := grown 0 (by simp only [List.length_nil]; omega)
      simp only [List.length_nil, Nat.zero_add, List.nil_append] at hg
      exact ⟨_, _, hr, hg⟩
  · have hh : w.heap[g]? = some (.cells (byteCells t ++ sp).toArray e (0, 0)) := hw.m g _ hm
    have hb := hw.blkT hm
    by_cases hroom : t.length + s.length ≤ cap
    · have hr := run_room (P := P) w tt 0 e e i ht hi1 g t.length cap _ hh ⟨bb, o, none⟩ s.length c (byteCells s) (by rw [byteCells_length, hi3, Nat.mul_one]) hcell hok hroom (by rw [List.size_toArray, List.length_append, byteCells_length, byteCells_length, hi3]; omega)
      rw [put_row hb, hi3, Nat.mul_one, byteCells_length] at hr
      refine ⟨_, _, hr, KeepP.put_ (by unfold AS.live; rw [hm]; simp) _, _, hw.putT hm _, Fol.put _ _ _, ?_⟩
      have e1 : (byteCells t ++ sp).toArray.toList.take t.length ++ byteCells s ++ (byteCells t ++ sp).toArray.toList.drop (t.length + s.length) = byteCells (t ++ s) ++ sp.drop s.length := by
        have : t.length = (byteCells t).length := (byteCells_length t).symm
        rw [this, ← List.drop_drop]
        simp only [List.take_left, List.drop_left, byteCells_append]
      rw [e1]
      refine hk _ _ (.inr ⟨g, cap, sp.drop s.length, by rw [List.length_append], by rw [put_eq, hm]; rfl, ?_, hc0, hcm⟩) ((Chg.refl _ _).put (.inl (by simp [ownL])) _) (fun g' hg' => .inl (by simpa [ownL] using hg'))
      simp only [List.length_append, List.length_drop]
      omega
    · have holds : ∀ j u, (byteCells t)[j]? = some u → w.cell? ((⟨g, 0, none⟩ : Addr).add j) = some u := fun j u hu => by
        rw [E.add_eq, cel hb, List.getElem?_append_left (by have := (List.getElem?_eq_some_iff.1 hu).1; omega), Nat.zero_add]; exact hu
      have hr := run_append_grow (P := P) w tt 0 e i (.int .u8 0) ht hi1 hi2 ⟨g, 0, none⟩ t.length cap (byteCells t) (by rw [hi3, byteCells_length, Nat.mul_one]) holds ⟨bb, o, none⟩ s.length c (byteCells s) (by rw [byteCells_length, hi3, Nat.mul_one]) hcell (by omega) (by omega) (growslice_fits (by omega) (by rw [hi4]; omega))
      have hg := grown cap (by omega)
      rw [byteCells_append, ← List.append_toArray] at hg
      exact ⟨_, _, hr, hg⟩

/-! ### Entries of Go's own -/
def extB (P : Program) (f : FuncId) : Bool := match P.funcs[f]? with
  | some fn => !(fn.name == "runtime.NumGoroutine") && fn.body.isNone && (Extern.findNext fn).isNone
  | none => false
theorem ext_by {f : FuncId} {e : Array Value → Sem Value} {args : List Value} {v : Value} (h : extB P f = true) (he : (P.funcs[f]?).bind Extern.find = some e) (hr : ∀ w, (e args.toArray).run P w = .ok v w) (hk : k v σ) : kGen P (.ext f) args σ k := by
  intro w hw
  unfold extB at h
  split at h
  · rename_i fn hf
    simp only [Bool.and_eq_true, Bool.not_eq_true', Option.isNone_iff_eq_none] at h
    obtain ⟨⟨h1, h2⟩, h3⟩ := h
    rw [hf, Option.bind_some] at he
    refine ⟨v, w, ?_, Out.same hw hk⟩
    simp only [lkSem, Sem.run_bind, run_callFunc_extern hf h1 (by rw [h2]; rfl) h3 he, hr w, Result.andThen_ok, Sem.run_pure]
  · cases h
/-- internal/bytealg.IndexByteString. -/
theorem idx_by {f : FuncId} {c : Int} (h : extB P f = true) (he : (P.funcs[f]?).bind Extern.find = some Extern.BytealgIndexByte.indexByte) (hk : k (.int .i64 (indexByte s c.toNat.toUInt8)) σ) : kGen P (.ext f) [.string (bs s), .int .u8 c] σ k :=
  ext_by h he (fun w => run_indexByteString (bs s) c w) hk
/-- internal/abi.NoEscape. -/
theorem noe_by {f : FuncId} {x : Value} (h : extB P f = true) (he : (P.funcs[f]?).bind Extern.find = some Extern.AbiNoEscape.same) (hk : k x σ) : kGen P (.ext f) [x] σ k :=
  ext_by h he (fun w => run_noEscape w x) hk
/-- A pointer to a block with its type as unsafe.Pointer, and back. -/
def cvtB (P : Program) (src dst : TypeId) : Bool := match P.underlying src, P.underlying dst with
  | some (.pointer t), some .unsafePointer => (match P.info? t with | some j => j.size != 0 | none => false)
  | _, _ => false
theorem cvt_by {src dst T : TypeId} {g o : Nat} {L : List Value} (h : cvtB P src dst = true) (hm : σ.m g = some (.typed T L)) (ho : o < L.length) (hk : k (.pointer (some ⟨g, o, none⟩)) σ) : kGen P (.cv src dst) [.pointer (some ⟨g, o, none⟩)] σ k := by
  intro w hw
  unfold cvtB at h
  split at h
  · rename_i t h1 h2
    split at h
    · rename_i j hj
      have hh : w.heap[g]? = some (.cells L.toArray T (0, 0)) := hw.m g _ hm
      exact ⟨_, _, run_to_unsafe w ⟨g, o, none⟩ h1 h2 hj (by simpa using h) (e := T) (cells := L.length) (by simp [World.shape?, hh]) ho, Out.same hw hk⟩
    · cases h
  · cases h
def cvfB (P : Program) (src dst T : TypeId) (n o : Nat) : Bool := match P.underlying src, P.underlying dst with
  | some .unsafePointer, some (.pointer u) => (P.info? u).isSome && liesAt P P.depth T (n / P.cellsOf T) o u 1
  | _, _ => false
theorem cvf_by {src dst T : TypeId} {g o : Nat} {L : List Value} (h : cvfB P src dst T L.length o = true) (hm : σ.m g = some (.typed T L)) (hk : k (.pointer (some ⟨g, o, none⟩)) σ) : kGen P (.cv src dst) [.pointer (some ⟨g, o, none⟩)] σ k := by
  intro w hw
  unfold cvfB at h
  split at h
  · rename_i u h1 h2
    simp only [Bool.and_eq_true, Option.isSome_iff_exists] at h
    obtain ⟨⟨j, hj⟩, hl⟩ := h
    have hh : w.heap[g]? = some (.cells L.toArray T (0, 0)) := hw.m g _ hm
    exact ⟨_, _, run_from_unsafe w ⟨g, o, none⟩ h1 h2 hj (e := T) (cells := L.length) (by simp [World.shape?, hh]) hl, Out.same hw hk⟩
  · cases h
/-- A pointer held against itself. -/
def neqB (P : Program) (t : TypeId) : Bool := match P.underlying t with | some (.pointer e) => (P.info? e).isSome | _ => false
theorem neq_by {t : TypeId} {x y : Operand} {p : Addr} (h : neqB P t = true) (hk : k (.bool false) σ) : kGen P (.bop .neq t x y) [.pointer (some p), .pointer (some p)] σ k := by
  intro w hw
  unfold neqB at h
  split at h
  · rename_i e h1
    simp only [Option.isSome_iff_exists] at h
    obtain ⟨j, hj⟩ := h
    refine ⟨_, _, ?_, Out.same hw hk⟩
    have hg : (eqGuard .neq t x y (.pointer (some p)) (.pointer (some p))).run P w = .ok () w := by
      simp [eqGuard]
    simp only [lkSem, Sem.run_bind, hg, Result.andThen_ok, run_neq_ptr_same w p h1 hj]
  · cases h
/-- unsafe.SliceData of a row of the walk's own. -/
def dataOf : Value → Value
  | .slice (some a) _ _ => .pointer (some a)
  | _ => .pointer none
theorem usd_by {ts : List TypeId} {ty : TypeId} (hown : OwnT σ e v t) (hk : k (dataOf v) σ) : kGen P (.blt .unsafeSliceData ts ty) [v] σ k := by
  intro w hw
  rcases hown with ⟨rfl, rfl⟩ | ⟨g, cap, sp, rfl, hm, hcl, hc0, hcm⟩
  · exact ⟨_, _, run_unsafeSliceData_nil (P := P) w ts.toArray ty 0 0, Out.same hw hk⟩
  · exact ⟨_, _, run_unsafeSliceData_row (P := P) w ts.toArray ty ⟨g, 0, none⟩ t.length cap (by omega), Out.same hw hk⟩
/-- unsafe.String of it: the row is let go. -/
def usB (P : Program) (pt e : TypeId) : Bool := match P.underlying pt with | some (.pointer e') => e' == e && P.cellsOf e == 1 | _ => false
theorem ust_by {pt it ty : TypeId} (h : usB P pt e = true) (hown : OwnT σ e v t) (h63 : t.length ≤ 9223372036854775807) (hk : ∀ σ', Chg (ownL v) σ σ' → k (.string (bs t)) σ') : kGen P (.blt .unsafeString [pt, it] ty) [dataOf v, .int .i64 t.length] σ k := by
  intro w hw
  have none_ : ∀ p, t = [] → ∃ v' w', (lkSem (.blt .unsafeString [pt, it] ty) [.pointer p, .int .i64 t.length]).run P w = .ok v' w' ∧ Out σ w k v' w' := by
    rintro p rfl
    exact ⟨_, _, run_unsafeString_none w pt it ty p, Out.same hw (hk σ (Chg.refl _ _))⟩
  rcases hown with ⟨rfl, h0⟩ | ⟨g, cap, sp, rfl, hm, hcl, hc0, hcm⟩
  · exact none_ _ h0
  · by_cases h0 : t = []
    · exact none_ _ h0
    · have hh : w.heap[g]? = some (.cells (byteCells t ++ sp).toArray e (0, 0)) := hw.m g _ hm
      unfold usB at h
      split at h
      · rename_i e' hp
        simp only [Bool.and_eq_true, beq_iff_eq] at h
        obtain ⟨rfl, hc⟩ := h
        have hr := run_unsafeString_row (P := P) w pt it ty e' hp hc g (byteCells t ++ sp).toArray.size (by simp [World.shape?, hh]) t h0 (by simp [byteCells_length]) h63 (fun j x hx => by
          rw [E.add_eq, cel (hw.blkT hm), Nat.zero_add, List.getElem?_append_left (by rw [byteCells_length]; exact (List.getElem?_eq_some_iff.1 hx).1)]
          simp [byteCells, hx])
        refine ⟨_, _, hr, ?_, σ.del g, ?_, ⟨Nat.le_refl _, fun k hk => .inl (fun h => hk (by
          by_cases e : k = g
          · subst e; exact del_eq
          · rw [del_ne e]; exact h))⟩, hk _ ((Chg.refl _ _).del (.inl (by simp [ownL])))⟩
        · unfold World.freeze
          split
          · exact KeepP.refl _ _
          · refine ⟨rfl, rfl, rfl, by simp [size], fun i hi hn => ?_⟩
            have : i ≠ g := by rintro rfl; exact hn (by unfold AS.live; rw [hm]; simp)
            simp only [Array.getElem?_modify]
            rw [if_neg (by intro h; exact this h.symm)]
        · unfold World.freeze
          split
          · refine hw.del g rfl (fun _ _ => rfl) (by rw [hm]; simp)
          · refine hw.del g (by simp [size]) (fun i hi => ?_) (by rw [hm]; simp)
            simp only [Array.getElem?_modify]
            rw [if_neg (by intro h; exact hi h.symm)]
      · cases h
end
end Go.Proofs.YtpnefcapiiemdaaGreatDoor.E

/- What cells stand for, aside of some blocks; rows of the walk's own that stand for lists of anything. Conditions: as each theorem says. -/
namespace Go.Proofs.YtpnefcapiiemdaaGreatDoor.E
open Go.RowKit Go.Lib
open Rp

/-- What is known, aside of the blocks X. -/
def sans (σ : AS) (X : List Nat) : Ce := fun b o => if b ∈ X then none else σ.ld b o
section
variable {σ σ' a : AS} {S X Y : List Nat} {b o : Nat} {v : Value}
theorem ld_lt (h : σ.ld b o = some v) : b < σ.n := by
  unfold AS.ld at h
  split at h
  · rename_i l hl; exact σ.lt hl
  · cases h
  · rename_i t l hl; exact σ.lt hl
  · exact σ.ltc h
theorem Chg.ld (h : Chg S σ σ') (hv : σ.ld b o = some v) (hb : b ∉ S) : σ'.ld b o = some v := by
  have := h.m b (ld_lt hv) hb
  unfold AS.ld at hv ⊢
  rw [this, h.c]
  exact hv
theorem sans_le_ld : Ce.le (sans σ X) σ.ld := fun b o v h => by
  unfold sans at h
  split at h
  · cases h
  · exact h
theorem sans_nil : sans σ [] = σ.ld := by funext b o; simp [sans]
theorem c_le_ld : Ce.le σ.c σ.ld := fun b o v h => ld_c h
theorem Chg.sans (h : Chg S σ σ') (hX : ∀ g, g ∈ S → g ∈ X ∨ σ.n ≤ g) : Ce.le (sans σ X) (sans σ' X) := fun b o v hv => by
  unfold E.sans at hv ⊢
  split at hv
  · cases hv
  · rename_i hb
    rw [if_neg hb]
    refine h.ld hv (fun hs => ?_)
    rcases hX b hs with h1 | h1
    · exact hb h1
    · have := ld_lt hv; omega
theorem sans_more (hY : ∀ g, g ∈ Y → g ∈ X ∨ σ.n ≤ g) : Ce.le (sans σ X) (sans σ Y) := fun b o v hv => by
  unfold sans at hv ⊢
  split at hv
  · cases hv
  · rename_i hb
    rw [if_neg (fun hy => ?_)]
    · exact hv
    · rcases hY b hy with h1 | h1
      · exact hb h1
      · have := ld_lt hv; omega
theorem Chg.le (h : Chg [] σ σ') : Ce.le σ.ld σ'.ld := fun b o v hv => h.ld hv (by simp)
theorem Gar.le (h : Gar σ σ') : Ce.le σ.ld σ'.ld := h.chg.le
end

/-- These cells stand for these, one behind the other. -/
def RpL {α : Type} [Rp α] (c : Ce) : List α → List Value → Prop
  | [], xs => xs = []
  | a :: l, xs => ∃ x y, xs = x ++ y ∧ rp c a x ∧ RpL c l y
section
variable {α β : Type} [Rp α] [Rp β] {c c' : Ce} {a : α} {l m : List α} {xs ys : List Value} {σ σ' : AS} {v : Value} {X Y S : List Nat}
theorem RpL.mono (hc : Ce.le c c') : ∀ {l : List α} {xs : List Value}, RpL c l xs → RpL c' l xs
  | [], _, h => h
  | _ :: _, _, ⟨x, y, e, h, r⟩ => ⟨x, y, e, Rp.mono hc h, RpL.mono hc r⟩
theorem RpL.len : ∀ {l : List α} {xs : List Value}, RpL c l xs → xs.length = l.length * sz α
  | [], _, h => by rw [show _ = _ from h]; simp
  | _ :: l, _, ⟨x, y, e, h, r⟩ => by
    have h1 := Rp.len h
    have h2 := RpL.len r
    rw [e, List.length_append, h1, h2, List.length_cons, Nat.add_mul]; omega
theorem RpL.ok : ∀ {l : List α} {xs : List Value}, RpL c l xs → xs.all okCell = true
  | [], _, h => by rw [show _ = _ from h]; rfl
  | _ :: l, _, ⟨x, y, e, h, r⟩ => by rw [e, List.all_append, Rp.ok h, RpL.ok r]; rfl
theorem RpL.one (h : rp c a xs) : RpL c [a] xs := ⟨xs, [], by simp, h, rfl⟩
theorem RpL.append : ∀ {l : List α} {xs : List Value}, RpL c l xs → RpL c m ys → RpL c (l ++ m) (xs ++ ys)
  | [], _, h, k => by rw [show _ = _ from h]; exact k
  | _ :: l, _, ⟨x, y, e, h, r⟩, k => ⟨x, y ++ ys, by rw [e, List.append_assoc], h, r.append k⟩
theorem RpL.at : ∀ {l : List α} {xs : List Value}, RpL c l xs → ∀ i (hi : i < l.length), ∃ cs, rp c l[i] cs ∧ ∀ j v, cs[j]? = some v → xs[i * sz α + j]? = some v
  | a :: l, _, ⟨x, y, e, h, r⟩, 0, hi => ⟨x, h, fun j v hv => by
    have := (List.getElem?_eq_some_iff.1 hv).1
    rw [e, Nat.zero_mul, Nat.zero_add, List.getElem?_append_left this]; exact hv⟩
  | a :: l, _, ⟨x, y, e, h, r⟩, i + 1, hi => by
    obtain ⟨cs, h1, h2⟩ := r.at i (by simpa using hi)
    refine ⟨cs, h1, fun j v hv => ?_⟩
    have hx := Rp.len h
    rw [e, List.getElem?_append_right (by rw [hx, Nat.add_mul]; omega), show (i + 1) * sz α + j - x.length = i * sz α + j from by rw [hx, Nat.add_mul]; omega]
    exact h2 j v hv
/-- Change of one element. -/
theorem RpL.set : ∀ {l : List α} {xs : List Value}, RpL c l xs → ∀ i (_ : i < l.length), rp c a ys → RpL c (l.set i a) (xs.take (i * sz α) ++ ys ++ xs.drop (i * sz α + sz α))
  | b :: l, _, ⟨x, y, e, h, r⟩, 0, hi, hy => ⟨ys, y, by
    have hx := Rp.len h
    rw [e, Nat.zero_mul, List.take_zero, List.nil_append, Nat.zero_add, ← hx, List.drop_left], hy, r⟩
  | b :: l, _, ⟨x, y, e, h, r⟩, i + 1, hi, hy => by
    have hx := Rp.len h
    refine ⟨x, _, ?_, h, r.set i (by simpa using hi) hy⟩
    rw [e, show (i + 1) * sz α = x.length + i * sz α from by rw [hx, Nat.add_mul]; omega, List.take_length_add_append, Nat.add_assoc, List.drop_length_add_append]
    simp only [List.append_assoc]

/-- v is a slice of the walk's own that has these; what they lead to lies aside of X. -/
def OwnR (σ : AS) (X : List Nat) (v : Value) (l : List α) : Prop := ∃ xs, OwnV σ v l.length (sz α) xs ∧ RpL (sans σ X) l xs
theorem OwnR.nil : OwnR σ X (.slice none 0 0) ([] : List α) := ⟨[], OwnV.nil σ _, rfl⟩
theorem OwnR.val (h : OwnR σ X v l) : ∃ x c, v = .slice x l.length c ∧ l.length ≤ c := by
  obtain ⟨xs, h1, _⟩ := h
  exact h1.val
theorem OwnR.ok (h : OwnR σ X v l) : okCell v = true := by
  obtain ⟨xs, h1, _⟩ := h
  exact h1.ok
theorem OwnR.lt (h : OwnR σ X v l) {g : Nat} (hg : g ∈ ownL v) : g < σ.n := by
  obtain ⟨xs, h1, _⟩ := h
  exact h1.lt hg
theorem OwnR.chg (h : OwnR σ X v l) (k : Chg S σ σ') (hn : ∀ g, g ∈ ownL v → g ∉ S) (hX : ∀ g, g ∈ S → g ∈ X ∨ σ.n ≤ g) : OwnR σ' X v l := by
  obtain ⟨xs, h1, h2⟩ := h
  exact ⟨xs, h1.chg k hn, h2.mono (k.sans hX)⟩
theorem OwnR.more (h : OwnR σ X v l) (hY : ∀ g, g ∈ Y → g ∈ X ∨ σ.n ≤ g) : OwnR σ Y v l := by
  obtain ⟨xs, h1, h2⟩ := h
  exact ⟨xs, h1, h2.mono (sans_more hY)⟩
theorem OwnV.rep {n : Nat} (h : OwnV σ v n (sz α) xs) (hn : l.length = n) (h2 : RpL c l xs) (hc : Ce.le c σ.ld) : RepL σ.ld v l := by
  subst hn
  rcases h with ⟨rfl, h0, _⟩ | ⟨g, cp, sp, rfl, hm, hl, hcl, hle, hcm⟩
  · have : l = [] := List.eq_nil_of_length_eq_zero h0
    subst this
    exact ⟨none, 0, rfl, Nat.le_refl _, Nat.zero_le _, .inl rfl⟩
  · refine ⟨_, cp, rfl, hle, hcm, .inr ⟨g, 0, rfl, fun i hi => ?_⟩⟩
    obtain ⟨cs, h3, h4⟩ := h2.at i hi
    refine ⟨cs, Rp.mono hc h3, fun j v hv => ?_⟩
    have := h4 j v hv
    rw [ld_m hm, Nat.zero_add, List.getElem?_append_left (List.getElem?_eq_some_iff.1 this).1]
    exact this
theorem OwnR.rep (h : OwnR σ X v l) : RepL σ.ld v l := by
  obtain ⟨xs, h1, h2⟩ := h
  exact h1.rep rfl h2 sans_le_ld
/-- The same, seen aside of blocks that it does not lie in. -/
theorem OwnR.repX (h : OwnR σ X v l) (hn : ∀ g, g ∈ ownL v → g ∉ X) : RepL (sans σ X) v l := by
  obtain ⟨xs, h1, h2⟩ := h
  rcases h1 with ⟨rfl, h0, _⟩ | ⟨g, cp, sp, rfl, hm, hl, hcl, hle, hcm⟩
  · have : l = [] := List.eq_nil_of_length_eq_zero h0
    subst this
    exact ⟨none, 0, rfl, Nat.le_refl _, Nat.zero_le _, .inl rfl⟩
  · refine ⟨_, cp, rfl, hle, hcm, .inr ⟨g, 0, rfl, fun i hi => ?_⟩⟩
    obtain ⟨cs, h3, h4⟩ := h2.at i hi
    refine ⟨cs, h3, fun j v hv => ?_⟩
    have := h4 j v hv
    unfold sans
    rw [if_neg (hn g (by simp [ownL])), ld_m hm, Nat.zero_add, List.getElem?_append_left (List.getElem?_eq_some_iff.1 this).1]
    exact this
/-- append of elements whose cells are known. -/
theorem appR_by {P : Program} {k : Value → AS → Prop} {t e : TypeId} {bytes m c b o : Nat} {ms : List α} {news : List Value} (ht : P.underlying t = some (.slice e)) (hi : infB P e (sz α) bytes = true) (hown : OwnR σ X v l)
    (hX : ∀ g, g ∈ ownL v → g ∈ X) (hn : ldsS σ b o (m * sz α) = some news) (hr : RpL (sans σ X) ms news) (hm : ms.length = m) (hlen : (l.length + m) * bytes ≤ 140737488355328) (hlen' : l.length + m ≤ maxLen)
    (hk : ∀ v' σ', OwnR σ' X v' (l ++ ms) → Chg (ownL v) σ σ' → (∀ g, g ∈ ownL v' → g ∈ ownL v ∨ g = σ.n) → k v' σ') : kApp P t t v (.slice (some ⟨b, o, none⟩) m c) σ k := by
  obtain ⟨xs, h1, h2⟩ := hown
  refine app_by ht hi h1 hn hr.ok hlen hlen' ?_
  intro v' σ' ho hc hg
  refine hk v' σ' ⟨xs ++ news, by rw [List.length_append, hm]; exact ho, ?_⟩ hc hg
  have hle : Ce.le (sans σ X) (sans σ' X) := hc.sans (fun g hg => .inl (hX g hg))
  exact (h2.mono hle).append (hr.mono hle)

/-- append of nothing. -/
theorem app0_by {P : Program} {k : Value → AS → Prop} {t e : TypeId} {sz bytes n c : Nat} {a : Option Addr} (ht : P.underlying t = some (.slice e)) (hi : infB P e sz bytes = true) (hown : OwnV σ v n sz xs) (hk : k v σ) : kApp P t t v (.slice a 0 c) σ k := by
  obtain ⟨i, z, hi1, _⟩ := infB_ok hi
  intro w hw
  refine ⟨v, w, ?_, KeepP.refl _ _, σ, hw, Fol.refl _, hk⟩
  have hf : (Builtin.firstCells i.size 0 (.slice a 0 c)).run P w = .ok #[] w := by
    cases a with
    | none => rfl
    | some a => simp [Builtin.firstCells, loadCells, loadCellsFrom]
  rcases hown with ⟨rfl, rfl, rfl⟩ | ⟨g, cap, sp, rfl, hm, hl, hcl, hnc, hcm⟩
  · simp [Builtin.append_, run_underlying ht, sizeOf, typeInfo, hi1, Builtin.lenOf, hf]
  · simp [Builtin.append_, run_underlying ht, sizeOf, typeInfo, hi1, Builtin.lenOf, hf, hnc, storeCells]
theorem callv_by {P : Program} {f : FuncId} {a b args : List Value} {k : Value → AS → Prop} (ho : okFn P f = true) (h : kCall P f (a ++ args ++ b) σ k) : kCallv P (.func (.func f) a.toArray b.toArray) args σ k := by
  rw [w_callv f a b args ho]; exact h
/-! ### Reading -/
theorem RepL.val (h : RepL c v l) : ∃ a cap, v = .slice a l.length cap ∧ l.length ≤ cap ∧ cap ≤ maxLen := by
  obtain ⟨a, cap, h1, h2, h3, _⟩ := h
  exact ⟨a, cap, h1, h2, h3⟩
/-- Where element i lies, what its cells are. -/
theorem RepL.at (h : RepL σ.ld v l) : ∃ b o cap, (v = .slice (some ⟨b, o, none⟩) l.length cap ∨ (l = [] ∧ ∃ a, v = .slice a 0 cap)) ∧ l.length ≤ cap ∧ cap ≤ maxLen ∧ ∀ i (hi : i < l.length), ∃ cs, rp σ.ld l[i] cs ∧ cs.length = sz α ∧ ldsS σ b (o + i * sz α) (sz α) = some cs ∧ ∀ j v, cs[j]? = some v → σ.ld b (o + i * sz α + j) = some v := by
  obtain ⟨a, cap, h1, h2, h3, h4⟩ := h
  rcases h4 with rfl | ⟨b, o, rfl, hr⟩
  · exact ⟨0, 0, cap, .inr ⟨rfl, a, h1⟩, h2, h3, fun i hi => by simp at hi⟩
  · refine ⟨b, o, cap, .inl h1, h2, h3, fun i hi => ?_⟩
    obtain ⟨cs, h5, h6⟩ := hr i hi
    have hl := Rp.len h5
    refine ⟨cs, h5, hl, ?_, h6⟩
    have key : ∀ (cs : List Value) (n o : Nat), cs.length = n → (∀ j v, cs[j]? = some v → σ.ld b (o + j) = some v) → ldsS σ b o n = some cs := by
      intro cs
      induction cs with
      | nil => intro n o hn _; simp at hn; subst hn; rfl
      | cons v r ih =>
        intro n o hn hc
        simp at hn
        subst hn
        have h0 := hc 0 v rfl
        simp only [Nat.add_zero] at h0
        simp only [ldsS]
        rw [h0, Option.bind_some, ih r.length (o + 1) rfl (fun j u hu => by
          have := hc (j + 1) u (by simpa using hu)
          rw [show o + 1 + j = o + (j + 1) from by omega]; exact this)]
        rfl
    exact key cs _ _ hl h6
theorem lds_add {b : Nat} : ∀ {n o m : Nat} {x y : List Value}, ldsS σ b o n = some x → ldsS σ b (o + n) m = some y → ldsS σ b o (n + m) = some (x ++ y)
  | 0, o, m, x, y, h, k => by
    injection h with h; subst h
    rw [Nat.zero_add]; exact k
  | n + 1, o, m, x, y, h, k => by
    simp only [ldsS, Option.bind_eq_some_iff, Option.map_eq_some_iff] at h
    obtain ⟨v, hv, r, hr, rfl⟩ := h
    rw [show n + 1 + m = (n + m) + 1 from by omega]
    simp only [ldsS, hv, Option.bind_some]
    rw [lds_add hr (by rw [show o + 1 + n = o + (n + 1) from by omega]; exact k)]
    rfl
/-- All cells of a list. -/
theorem RepL.all (h : RepL σ.ld v l) : ∃ a cap, v = .slice a l.length cap ∧ l.length ≤ cap ∧ (l = [] ∨ ∃ b o xs, a = some ⟨b, o, none⟩ ∧ ldsS σ b o (l.length * sz α) = some xs ∧ RpL σ.ld l xs) := by
  obtain ⟨b, o, cap, hv, h1, h2, hat⟩ := h.at
  rcases hv with rfl | ⟨rfl, a, rfl⟩
  · refine ⟨_, cap, rfl, h1, .inr ⟨b, o, ?_⟩⟩
    have key : ∀ (l : List α) (o : Nat), (∀ i (hi : i < l.length), ∃ cs, rp σ.ld l[i] cs ∧ ldsS σ b (o + i * sz α) (sz α) = some cs) → ∃ xs, ldsS σ b o (l.length * sz α) = some xs ∧ RpL σ.ld l xs := by
      intro l
      induction l with
      | nil => intro o _; exact ⟨[], by simp [ldsS], rfl⟩
      | cons a l ih =>
        intro o hh
        obtain ⟨cs, hc, hl⟩ := hh 0 (by simp)
        rw [Nat.zero_mul, Nat.add_zero] at hl
        obtain ⟨xs, hx, hr⟩ := ih (o + sz α) (fun i hi => by
          obtain ⟨cs, hc, hl⟩ := hh (i + 1) (by simpa using hi)
          exact ⟨cs, hc, by rw [show o + sz α + i * sz α = o + (i + 1) * sz α from by rw [Nat.add_mul]; omega]; exact hl⟩)
        refine ⟨cs ++ xs, ?_, cs, xs, rfl, hc, hr⟩
        rw [List.length_cons, show (l.length + 1) * sz α = sz α + l.length * sz α from by rw [Nat.add_mul]; omega]
        exact lds_add hl hx
    obtain ⟨xs, hx, hr⟩ := key l o (fun i hi => by
      obtain ⟨cs, h3, _, h4, _⟩ := hat i hi
      exact ⟨cs, h3, h4⟩)
    exact ⟨xs, rfl, hx, hr⟩
  · exact ⟨a, cap, rfl, h1, .inl rfl⟩
theorem RepL.off {b o n cp : Nat} (h : RepL (sans σ X) (.slice (some ⟨b, o, none⟩) n cp) l) (hl : 0 < l.length) : b ∉ X := by
  obtain ⟨a, cap, hv, _, _, h4⟩ := h
  injection hv with hv _ _
  rcases h4 with rfl | ⟨b', o', rfl, hr⟩
  · simp at hl
  · injection hv with hv
    injection hv with h1 h2 _
    subst h1
    obtain ⟨cs, hc, hx⟩ := hr 0 hl
    have hcl := Rp.len hc
    have hp := Rp.pos (α := α)
    have := hx 0 cs[0] (by rw [List.getElem?_eq_getElem (by omega)])
    unfold sans at this
    intro hb
    rw [if_pos hb] at this
    cases this
end
end Go.Proofs.YtpnefcapiiemdaaGreatDoor.E

/- States as things that lie apart from one another: what each is, which blocks it is made of, and data that stay; how a walk's steps turn them. Conditions: as each theorem says. -/
namespace Go.Proofs.YtpnefcapiiemdaaGreatDoor.E
open Go.RowKit Go.Lib
open Rp
set_option linter.unusedVariables false

/-- A thing: what it asks of its blocks, the data that stay, and the state. -/
structure Ck where
  H : List Nat → Ce → AS → Prop
  loc : ∀ {F X X' σ σ'}, H F X σ → Ce.le X X' → (∀ g, g ∈ F → σ'.m g = σ.m g) → H F X' σ'
  live : ∀ {F X σ}, H F X σ → ∀ g, g ∈ F → g < σ.n
def Sep (X : Ce) (σ : AS) : List Ck → (Nat → Prop) → Prop
  | [], _ => True
  | C :: R, A => ∃ F, C.H F X σ ∧ (∀ g, g ∈ F → ¬ A g) ∧ Sep X σ R (fun b => A b ∨ b ∈ F)
def inX (X : Ce) (b : Nat) : Prop := ∃ o, X b o ≠ none
/-- The state has the data X, and the things R, all apart. -/
structure Hs (σ : AS) (X : Ce) (R : List Ck) : Prop where
  x : Ce.le X σ.ld
  s : Sep X σ R (inX X)
section
variable {σ σ' : AS} {X X' : Ce} {R : List Ck} {C C' D : Ck} {A A' : Nat → Prop} {p : Nat} {cs cs' : List Value}
theorem inX_le (h : Ce.le X X') {b : Nat} (hb : inX X b) : inX X' b := by
  obtain ⟨o, ho⟩ := hb
  cases hv : X b o with
  | none => exact absurd hv ho
  | some v => exact ⟨o, by rw [h _ _ _ hv]; simp⟩
theorem inX_lt (h : Ce.le X σ.ld) {b : Nat} (hb : inX X b) : b < σ.n := by
  obtain ⟨o, ho⟩ := hb
  cases hv : X b o with
  | none => exact absurd hv ho
  | some v => exact ld_lt (h _ _ _ hv)
/-- What lies apart from all that turned stays. -/
theorem Sep.frame : ∀ {R : List Ck} {A A' : Nat → Prop}, Sep X σ R A → Ce.le X X' → (∀ g, g < σ.n → ¬ A g → σ'.m g = σ.m g) → (∀ g, A' g → A g ∨ σ.n ≤ g) → Sep X' σ' R A'
  | [], _, _, _, _, _, _ => trivial
  | C :: R, A, A', ⟨F, h, ha, hr⟩, hx, hm, hA => by
    refine ⟨F, C.loc h hx (fun g hg => hm g (C.live h g hg) (ha g hg)), fun g hg hg' => ?_, hr.frame hx (fun g hg hn => hm g hg (fun h => hn (.inl h))) (fun g hg => ?_)⟩
    · rcases hA g hg' with h1 | h1
      · exact ha g hg h1
      · have := C.live h g hg; omega
    · rcases hg with hg | hg
      · rcases hA g hg with h1 | h1
        · exact .inl (.inl h1)
        · exact .inr h1
      · exact .inl (.inr hg)
theorem Sep.anti (h : Sep X σ R A) (hA : ∀ g, A' g → A g) : Sep X σ R A' := h.frame (Ce.le_refl _) (fun _ _ _ => rfl) (fun g hg => .inl (hA g hg))
theorem Sep.swap (h : Sep X σ (D :: C :: R) A) : Sep X σ (C :: D :: R) A := by
  obtain ⟨F0, h0, a0, F, h1, a1, hr⟩ := h
  exact ⟨F, h1, fun g hg hA => a1 g hg (.inl hA), F0, h0, fun g hg hA => hA.elim (a0 g hg) (fun hf => a1 g hf (.inr hg)), hr.anti (fun g hg => by
    rcases hg with (hg | hg) | hg
    · exact .inl (.inl hg)
    · exact .inr hg
    · exact .inl (.inr hg))⟩
theorem Sep.front : ∀ {R : List Ck} {A : Nat → Prop} (i : Nat), Sep X σ R A → R[i]? = some C → Sep X σ (C :: R.eraseIdx i) A
  | [], _, i, _, hi => by simp at hi
  | C0 :: R, A, 0, h, hi => by
    simp only [List.getElem?_cons_zero, Option.some.injEq] at hi
    subst hi
    exact h
  | C0 :: R, A, i + 1, ⟨F0, h0, a0, hr⟩, hi => Sep.swap ⟨F0, h0, a0, hr.front i (by simpa using hi)⟩
theorem Hs.front (i : Nat) (h : Hs σ X R) (hi : R[i]? = some C) : Hs σ X (C :: R.eraseIdx i) := ⟨h.x, h.s.front i hi⟩
theorem Hs.swap (h : Hs σ X (D :: C :: R)) : Hs σ X (C :: D :: R) := ⟨h.x, h.s.swap⟩
theorem Hs.drop (h : Hs σ X (C :: R)) : Hs σ X R := ⟨h.x, by
  obtain ⟨F, _, _, hr⟩ := h.s
  exact hr.anti (fun g hg => .inl hg)⟩
/-- The first thing turns. -/
theorem Hs.take (h : Hs σ X (C :: R)) : ∃ F, C.H F X σ ∧ (∀ g, g ∈ F → ¬ inX X g) ∧ ∀ {σ' : AS} {X' : Ce} {C' : Ck} {F' : List Nat}, Ce.le X X' → (∀ g, g < σ.n → g ∉ F → σ'.m g = σ.m g) → C'.H F' X' σ' →
    (∀ g, g ∈ F' → g ∈ F ∨ σ.n ≤ g) → (∀ g, g ∈ F' → ¬ inX X' g) → (∀ g, inX X' g → inX X g ∨ g ∈ F ∨ σ.n ≤ g) → Ce.le X' σ'.ld → Hs σ' X' (C' :: R) := by
  obtain ⟨F, h1, ha, hr⟩ := h.s
  refine ⟨F, h1, ha, fun hx hm h' hF hA1 hA2 hl => ⟨hl, _, h', hA1, ?_⟩⟩
  refine hr.frame hx (fun g hg hn => hm g hg (fun h => hn (.inr h))) (fun g hg => ?_)
  rcases hg with hg | hg
  · rcases hA2 g hg with h1 | h1 | h1
    · exact .inl (.inl h1)
    · exact .inl (.inr h1)
    · exact .inr h1
  · rcases hF g hg with h1 | h1
    · exact .inl (.inr h1)
    · exact .inr h1
theorem ld_of (hm : σ'.m = σ.m) (hc : σ'.c = σ.c) : σ'.ld = σ.ld := by
  funext b o; unfold AS.ld; rw [hm, hc]
/-- The first thing turns, the data that stay stay as they are. -/
theorem Hs.turn (h : Hs σ X (C :: R)) : ∃ F, C.H F X σ ∧ ∀ {σ' : AS} {C' : Ck} {F' : List Nat}, Chg F σ σ' → C'.H F' X σ' → (∀ g, g ∈ F' → g ∈ F ∨ σ.n ≤ g) → Hs σ' X (C' :: R) := by
  obtain ⟨F, h1, ha, hk⟩ := h.take
  refine ⟨F, h1, fun hc h' hF => hk (Ce.le_refl _) (fun g hg hn => hc.m g hg hn) h' hF (fun g hg hi => ?_) (fun g hg => .inl hg) (fun b o v hv => ?_)⟩
  · rcases hF g hg with h2 | h2
    · exact ha g h2 hi
    · have := inX_lt h.x hi; omega
  · exact hc.ld (h.x _ _ _ hv) (fun hb => ha b hb ⟨o, by rw [hv]; simp⟩)
/-- A thing that is new. -/
theorem Hs.more (h : Hs σ X R) {F : List Nat} (hc : Chg [] σ σ') (h' : C.H F X σ') (hF : ∀ g, g ∈ F → σ.n ≤ g) : Hs σ' X (C :: R) := by
  refine ⟨Ce.le_trans h.x hc.le, F, h', fun g hg hi => ?_, h.s.frame (Ce.le_refl _) (fun g hg _ => hc.m g hg (by simp)) (fun g hg => ?_)⟩
  · have := inX_lt h.x hi; have := hF g hg; omega
  · rcases hg with hg | hg
    · exact .inl hg
    · exact .inr (hF g hg)
theorem Hs.gar (h : Hs σ X R) (hc : Chg [] σ σ') : Hs σ' X R := ⟨Ce.le_trans h.x hc.le, h.s.frame (Ce.le_refl _) (fun g hg _ => hc.m g hg (by simp)) (fun g hg => .inl hg)⟩
theorem Hs.up (h : Hs σ X R) (j : Nat) : Hs (σ.up j) X R := h.gar ((Chg.refl _ _).up j)
theorem Hs.junk (h : Hs σ X R) (ob : Ob) : Hs (σ.new ob) X R := h.gar ((Chg.refl _ _).new ob)
theorem Hs.le (h : Hs σ X R) (hx : Ce.le X' X) (h2 : Sep X' σ R (inX X')) : Hs σ X' R := ⟨Ce.le_trans hx h.x, h2⟩
theorem Hs.start (w : World) : Hs (start w) (start w).c [] := ⟨c_le_ld, trivial⟩
theorem Hs.ldx (h : Hs σ X R) {b o : Nat} {v : Value} (hv : X b o = some v) : ldOb (σ.c b o) (σ.m b) o = some v := by
  rw [← ld_ob]; exact h.x _ _ _ hv

/-! ### A block of cells -/
def Cel (p : Nat) (cs : List Value) : Ck := ⟨fun F X σ => F = [p] ∧ σ.m p = some (.cells cs), fun ⟨h, h1⟩ _ hm => ⟨h, (hm _ (by rw [h]; simp)).trans h1⟩, fun ⟨h, h1⟩ g hg => by rw [h] at hg; simp at hg; subst hg; exact AS.lt h1⟩
theorem Hs.obj (h : Hs σ X (Cel p cs :: R)) : σ.m p = some (.cells cs) := by obtain ⟨_, ⟨_, h⟩, _⟩ := h.s; exact h
theorem Hs.obj1 (h : Hs σ X (C :: Cel p cs :: R)) : σ.m p = some (.cells cs) := h.drop.obj
theorem Hs.obj2 {C2 : Ck} (h : Hs σ X (C :: C2 :: Cel p cs :: R)) : σ.m p = some (.cells cs) := h.drop.drop.obj
theorem Hs.obj3 {C2 C3 : Ck} (h : Hs σ X (C :: C2 :: C3 :: Cel p cs :: R)) : σ.m p = some (.cells cs) := h.drop.drop.drop.obj
theorem Hs.obj4 {C2 C3 C4 : Ck} (h : Hs σ X (C :: C2 :: C3 :: C4 :: Cel p cs :: R)) : σ.m p = some (.cells cs) := h.drop.drop.drop.drop.obj
theorem Hs.lt (h : Hs σ X (Cel p cs :: R)) : p < σ.n := σ.lt h.obj
theorem Hs.put (h : Hs σ X (Cel p cs :: R)) : Hs (σ.put p (.cells cs')) X (Cel p cs' :: R) := by
  obtain ⟨F, ⟨rfl, hm⟩, hk⟩ := h.turn
  exact hk ((Chg.refl _ _).put (.inl (by simp)) _) ⟨rfl, by rw [put_eq, hm]; rfl⟩ (fun g hg => .inl hg)
theorem Hs.put1 (h : Hs σ X (C :: Cel p cs :: R)) : Hs (σ.put p (.cells cs')) X (C :: Cel p cs' :: R) := h.swap.put.swap
theorem Hs.rot2 {C2 : Ck} (h : Hs σ X (C :: C2 :: D :: R)) : Hs σ X (D :: C :: C2 :: R) := h.front 2 rfl
theorem Hs.rot3 {C2 C3 : Ck} (h : Hs σ X (C :: C2 :: C3 :: D :: R)) : Hs σ X (D :: C :: C2 :: C3 :: R) := h.front 3 rfl
theorem Hs.un2 {C2 : Ck} (h : Hs σ X (D :: C :: C2 :: R)) : Hs σ X (C :: C2 :: D :: R) := h.rot2.rot2
theorem Hs.un3 {C2 C3 : Ck} (h : Hs σ X (D :: C :: C2 :: C3 :: R)) : Hs σ X (C :: C2 :: C3 :: D :: R) := h.rot3.rot3.rot3
theorem Hs.put2 {C2 : Ck} (h : Hs σ X (C :: C2 :: Cel p cs :: R)) : Hs (σ.put p (.cells cs')) X (C :: C2 :: Cel p cs' :: R) := h.rot2.put.un2
theorem Hs.put3 {C2 C3 : Ck} (h : Hs σ X (C :: C2 :: C3 :: Cel p cs :: R)) : Hs (σ.put p (.cells cs')) X (C :: C2 :: C3 :: Cel p cs' :: R) := h.rot3.put.un3
theorem Hs.new (h : Hs σ X R) : Hs (σ.new (.cells cs)) X (Cel σ.n cs :: R) := h.more ((Chg.refl _ _).new _) ⟨rfl, new_eq_⟩ (by simp)
/-- A block that is never written again. -/
theorem Hs.freeze (h : Hs σ X (Cel p cs :: R)) : ∃ X', Ce.le X X' ∧ (∀ o v, cs[o]? = some v → X' p o = some v) ∧ Hs σ X' R := by
  obtain ⟨F, ⟨rfl, hm⟩, ha, hr⟩ := h.s
  have hp : ¬ inX X p := ha p (by simp)
  refine ⟨fun b o => if b = p then cs[o]? else X b o, fun b o v hv => ?_, fun o v hv => by simp [hv], ?_, hr.frame (fun b o v hv => ?_) (fun _ _ _ => rfl) (fun g hg => ?_)⟩
  · have : b ≠ p := by rintro rfl; exact hp ⟨o, by rw [hv]; simp⟩
    simp [this, hv]
  · intro b o v hv
    by_cases hb : b = p
    · subst hb; rw [ld_m hm]; simpa using hv
    · exact h.x _ _ _ (by simpa [hb] using hv)
  · have : b ≠ p := by rintro rfl; exact hp ⟨o, by rw [hv]; simp⟩
    simp [this, hv]
  · obtain ⟨o, ho⟩ := hg
    by_cases hb : g = p
    · exact .inl (.inr (by simp [hb]))
    · exact .inl (.inl ⟨o, by simpa [hb] using ho⟩)
/-- A block that keeps its type. -/
def CelT (t : TypeId) (p : Nat) (cs : List Value) : Ck := ⟨fun F X σ => F = [p] ∧ σ.m p = some (.typed t cs), fun ⟨h, h1⟩ _ hm => ⟨h, (hm _ (by rw [h]; simp)).trans h1⟩, fun ⟨h, h1⟩ g hg => by rw [h] at hg; simp at hg; subst hg; exact AS.lt h1⟩

/-! ### A row that grows -/
section
variable {α : Type} [Rp α] {l ms : List α} {v : Value} {a : α}
theorem OwnV.loc {n sz : Nat} {xs : List Value} (h : OwnV σ v n sz xs) (hm : ∀ g, g ∈ ownL v → σ'.m g = σ.m g) : OwnV σ' v n sz xs := by
  rcases h with h | ⟨g, c, sp, rfl, hg, r⟩
  · exact .inl h
  · exact .inr ⟨g, c, sp, rfl, (hm g (by simp [ownL])).trans hg, r⟩
def Own (v : Value) (l : List α) : Ck := ⟨fun F X σ => F = ownL v ∧ ∃ xs, OwnV σ v l.length (sz α) xs ∧ RpL X l xs, fun ⟨h, xs, h1, h2⟩ hx hm => ⟨h, xs, h1.loc (fun g hg => hm g (by rw [h]; exact hg)), h2.mono hx⟩, fun ⟨h, xs, h1, h2⟩ g hg => h1.lt (by rw [h] at hg; exact hg)⟩
theorem Hs.own (h : Hs σ X (Own v l :: R)) : ∃ x c, v = .slice x l.length c ∧ l.length ≤ c := by
  obtain ⟨_, ⟨_, xs, h1, _⟩, _⟩ := h.s
  exact h1.val
theorem Hs.own1 (h : Hs σ X (C :: Own v l :: R)) : ∃ x c, v = .slice x l.length c ∧ l.length ≤ c := h.drop.own
theorem Hs.own2 {C2 : Ck} (h : Hs σ X (C :: C2 :: Own v l :: R)) : ∃ x c, v = .slice x l.length c ∧ l.length ≤ c := h.drop.drop.own
theorem Hs.own0 (h : Hs σ X R) : Hs σ X (Own (α := α) (.slice none 0 0) [] :: R) := h.more (F := []) (Chg.refl _ _) ⟨rfl, [], OwnV.nil _ _, rfl⟩ (by simp)
/-- append of new elements out of a row that was made for it. -/
theorem apps_by {P : Program} {k : Value → AS → Prop} {t e : TypeId} {bytes m c : Nat} {news : List Value} (h : Hs σ X (Own v l :: R)) (ht : P.underlying t = some (.slice e)) (hi : infB P e (sz α) bytes = true)
    (hr : RpL X ms news) (hm : ms.length = m) (hlen : (l.length + m) * bytes ≤ 140737488355328) (hlen' : l.length + m ≤ maxLen)
    (hk : ∀ v' σ', Hs σ' X (Own v' (l ++ ms) :: R) → k v' σ') : kApp P t t v (.slice (some ⟨σ.n, 0, none⟩) m c) (σ.new (.cells news)) k := by
  have h2 := h.junk (.cells news)
  obtain ⟨F, ⟨rfl, xs, h3, h4⟩, hk2⟩ := h2.turn
  have hl := hr.len
  rw [hm] at hl
  refine app_by ht hi h3 (news := news) ?_ hr.ok hlen hlen' ?_
  · rw [ldsM new_eq_ _ 0 (by omega), List.drop_zero, List.take_of_length_le (by omega)]
  intro v' σ' ho hc hg
  refine hk v' σ' (hk2 (F' := ownL v') hc ⟨rfl, xs ++ news, by rw [List.length_append, hm]; exact ho, h4.append hr⟩ (fun g hg' => ?_))
  rcases hg g hg' with h | h
  · exact .inl h
  · exact .inr (by omega)
/-- append of one. -/
theorem push_by {P : Program} {k : Value → AS → Prop} {t e : TypeId} {bytes c : Nat} {news : List Value} (h : Hs σ X (Own v l :: R)) (ht : P.underlying t = some (.slice e)) (hi : infB P e (sz α) bytes = true)
    (hr : rp X a news) (hlen : (l.length + 1) * bytes ≤ 140737488355328) (hlen' : l.length + 1 ≤ maxLen)
    (hk : ∀ v' σ', Hs σ' X (Own v' (l ++ [a]) :: R) → k v' σ') : kApp P t t v (.slice (some ⟨σ.n, 0, none⟩) 1 c) (σ.new (.cells news)) k :=
  apps_by h ht hi (RpL.one hr) rfl hlen hlen' hk
/-- A row that is never written again. -/
theorem Hs.keep (h : Hs σ X (Own v l :: R)) : ∃ X', Ce.le X X' ∧ RepL X' v l ∧ Hs σ X' R := by
  obtain ⟨F, ⟨rfl, xs, h1, h2⟩, ha, hr⟩ := h.s
  rcases h1 with ⟨rfl, h0, _⟩ | ⟨g, cp, sp, rfl, hm, hl, hcl, hle, hcm⟩
  · have : l = [] := List.eq_nil_of_length_eq_zero h0
    subst this
    exact ⟨X, Ce.le_refl _, ⟨none, 0, rfl, Nat.le_refl _, Nat.zero_le _, .inl rfl⟩, h.drop⟩
  have hp : ¬ inX X g := ha g (by simp [ownL])
  have hle' : Ce.le X (fun b o => if b = g then (xs ++ sp)[o]? else X b o) := fun b o v hv => by
    have : b ≠ g := by rintro rfl; exact hp ⟨o, by rw [hv]; simp⟩
    simp [this, hv]
  refine ⟨fun b o => if b = g then (xs ++ sp)[o]? else X b o, hle', ⟨_, cp, rfl, hle, hcm, .inr ⟨g, 0, rfl, fun i hi => ?_⟩⟩, ?_, hr.frame hle' (fun _ _ _ => rfl) (fun b hb => ?_)⟩
  · obtain ⟨cs, h3, h4⟩ := h2.at i hi
    refine ⟨cs, Rp.mono hle' h3, fun j v hv => ?_⟩
    have := h4 j v hv
    simp only [if_true, Nat.zero_add]
    rw [List.getElem?_append_left (List.getElem?_eq_some_iff.1 this).1]
    exact this
  · intro b o v hv
    by_cases hb : b = g
    · subst hb; rw [ld_m hm]; simpa using hv
    · exact h.x _ _ _ (by simpa [hb] using hv)
  · obtain ⟨o, ho⟩ := hb
    by_cases hb : b = g
    · exact .inl (.inr (by simp [hb, ownL]))
    · exact .inl (.inl ⟨o, by simpa [hb] using ho⟩)
/-- A row of the data that stay, as they lie. -/
theorem RepL.get (h : RepL X v l) : ∃ a b o cap, v = .slice a l.length cap ∧ l.length ≤ cap ∧ cap ≤ maxLen ∧ ∀ i (hi : i < l.length), a = some ⟨b, o, none⟩ ∧ ∃ cs, rp X l[i] cs ∧ cs.length = sz α ∧ ∀ j v, cs[j]? = some v → X b (o + i * sz α + j) = some v := by
  obtain ⟨a, cap, h1, h2, h3, h4⟩ := h
  rcases h4 with rfl | ⟨b, o, h5, h6⟩
  · exact ⟨a, 0, 0, cap, h1, h2, h3, fun i hi => by simp at hi⟩
  · refine ⟨a, b, o, cap, h1, h2, h3, fun i hi => ⟨h5, ?_⟩⟩
    obtain ⟨cs, h7, h8⟩ := h6 i hi
    exact ⟨cs, h7, Rp.len h7, h8⟩
/-- What was just laid into a row. -/
theorem Hs.lit {n : Nat} {cs : List Value} (h : Hs σ X (Cel p cs :: R)) (hr : RpL X l cs) (hl : l.length = n) (hb : n ≤ maxLen) : Hs σ X (Own (.slice (some ⟨p, 0, none⟩) n n) l :: R) := by
  obtain ⟨F, ⟨rfl, hm⟩, hk⟩ := h.turn
  have hlen := hr.len
  rw [hl] at hlen
  exact hk (F' := [p]) (Chg.refl _ _) ⟨rfl, cs, .inr ⟨p, n, [], by rw [hl], by rw [List.append_nil]; exact hm, by rw [hl]; exact hlen, by rw [List.append_nil]; exact hlen, by omega, hb⟩, hr⟩ (fun g hg => .inl hg)
end
end

/-! ### Loops -/
/-- A loop whose head's states are a relation. -/
theorem loop_inv {B : (List Value → AS → Prop) → List Value → AS → Prop} {xs : List Value} {s : AS} (I : Nat → List Value → AS → Prop) (n : Nat) (h0 : I n xs s)
    (h : ∀ n xs s (again : List Value → AS → Prop), I n xs s → (∀ m xs' s', I m xs' s' → m < n → again xs' s') → B again xs s) : kLoop B xs s :=
  ⟨I, ⟨n, h0⟩, fun n xs s hi => h n xs s _ hi fun m xs' s' h' hlt => ⟨m, hlt, h'⟩⟩
end Go.Proofs.YtpnefcapiiemdaaGreatDoor.E

/- Maps as things that lie apart: look-up, store, deletion, how many there are, and ranges in whatever order. Conditions: as each theorem says. -/
namespace Go.Proofs.YtpnefcapiiemdaaGreatDoor.E
open Go.RowKit Go.Lib Go.MapKept
open Go.ChangeMaps (setBlock)
set_option linter.unusedVariables false
set_option linter.unusedSimpArgs false

/-- Keys: how one is a value. -/
class KeyT (κ : Type) where
  enc : κ → Value
  d : TypeDesc
  ok : ∀ k, IsKey d (enc k)
  inj : ∀ {a b}, enc a = enc b → a = b
  stays : ∀ a, Instr.sameBits 10000 (enc a) (enc a) = true
instance : KeyT Int := ⟨.int .i64, .int .i64, fun _ => rfl, fun h => by injection h, fun a => by simp [Instr.sameBits]⟩
instance : KeyT Str := ⟨fun s => .string (bs s), .string, fun _ => trivial, fun h => by
  injection h with h
  have := congrArg (fun b => b.data.toList) h
  simpa [bs] using this, fun a => by
  show (bs a == bs a) = true
  exact (bytes_beq _ _).2 rfl⟩
abbrev encK {κ : Type} [KeyT κ] : κ → Value := KeyT.enc
theorem encK_i (n : Int) : (KeyT.enc n : Value) = .int .i64 n := rfl
theorem encK_s (s : Str) : (KeyT.enc s : Value) = .string (bs s) := rfl

section
variable {κ : Type}
abbrev En (κ : Type) := κ × Value × Nat
def enE [KeyT κ] (e : En κ) : MapEntry := ⟨encK e.1, e.2.1, e.2.2⟩
def mapO [KeyT κ] (es : List (En κ)) (clk : Nat) : Go.Obj := .map (es.map enE).toArray clk
def keyV (e : En κ) : κ × Value := (e.1, e.2.1)
/-- Keys are there once, stamps rise, all below the clock. -/
structure WF (es : List (En κ)) (clk : Nat) : Prop where
  keys : es.Pairwise (fun a b => a.1 ≠ b.1)
  born : es.Pairwise (fun a b => a.2.2 < b.2.2)
  lt : ∀ e, e ∈ es → e.2.2 < clk
def ins [DecidableEq κ] (l : List (κ × Value)) (k : κ) (v : Value) : List (κ × Value) := if (l.lookup k).isSome then l.map (fun p => if p.1 = k then (k, v) else p) else l ++ [(k, v)]
def del [DecidableEq κ] (l : List (κ × Value)) (k : κ) : List (κ × Value) := l.filter (fun p => decide (p.1 ≠ k))
/-- What an iterator in block i has gone through. -/
def ItOk (σ : AS) (r : Nat) (es : List (En κ)) (clk : Nat) (F : List Nat) : Option (Nat × List κ) → Prop
  | none => F = [r]
  | some (i, vis) => F = [r, i] ∧ r ≠ i ∧ ∃ seen : Array Nat, σ.m i = some (.other (.mapIter (some r) clk seen clk)) ∧ (∀ e, e ∈ es → (e.2.2 ∈ seen ↔ e.1 ∈ vis)) ∧ (∀ s, s ∈ seen → s < clk) ∧ ∀ e, e ∈ es → vis.head? = some e.1 → ∃ s0 : Array Nat, seen = s0.push e.2.2
def Mp [KeyT κ] (r : Nat) (it : Option (Nat × List κ)) (l : List (κ × Value)) : Ck := ⟨fun F X σ => ∃ es clk, es.map keyV = l ∧ WF es clk ∧ σ.m r = some (.other (mapO es clk)) ∧ ItOk σ r es clk F it, fun {F X X' σ σ'} ⟨es, clk, h1, h2, h3, h4⟩ _ hm => by
    have hr : r ∈ F := by
      unfold ItOk at h4
      split at h4
      · rw [h4]; simp
      · rw [h4.1]; simp
    refine ⟨es, clk, h1, h2, (hm r hr).trans h3, ?_⟩
    unfold ItOk at h4 ⊢
    split at h4
    · exact h4
    · obtain ⟨h5, h6, seen, h7, h8⟩ := h4
      exact ⟨h5, h6, seen, (hm _ (by rw [h5]; simp)).trans h7, h8⟩, fun {F X σ} ⟨es, clk, h1, h2, h3, h4⟩ g hg => by
    unfold ItOk at h4
    split at h4
    · rw [h4] at hg; simp at hg; subst hg; exact σ.lt h3
    · obtain ⟨h5, h6, seen, h7, h8⟩ := h4
      rw [h5] at hg
      simp at hg
      rcases hg with rfl | rfl
      · exact σ.lt h3
      · exact σ.lt h7⟩

/-! ### Lists -/
theorem lookup_none [DecidableEq κ] {l : List (κ × Value)} {k : κ} : (∀ p, p ∈ l → p.1 ≠ k) → l.lookup k = none := by
  induction l with
  | nil => intro _; rfl
  | cons p l ih =>
    intro h
    have h1 := h p (by simp)
    rw [List.lookup_cons]
    have : (k == p.1) = false := by simp; exact fun e => h1 e.symm
    rw [this]
    exact ih (fun q hq => h q (by simp [hq]))
theorem lookup_some [DecidableEq κ] {l : List (κ × Value)} {k : κ} {v : Value} (hk : l.Pairwise (fun a b => a.1 ≠ b.1)) (h : (k, v) ∈ l) : l.lookup k = some v := by
  induction l with
  | nil => cases h
  | cons p l ih =>
    rw [List.pairwise_cons] at hk
    rw [List.lookup_cons]
    rcases List.mem_cons.1 h with rfl | h
    · simp
    · have : (k == p.1) = false := by simp; exact fun e => hk.1 _ h e.symm
      rw [this]
      exact ih hk.2 h
theorem lookup_mem [DecidableEq κ] {l : List (κ × Value)} {k : κ} {v : Value} (h : l.lookup k = some v) : (k, v) ∈ l := by
  induction l with
  | nil => cases h
  | cons p l ih =>
    rw [List.lookup_cons] at h
    split at h
    · rename_i he
      obtain rfl : k = p.1 := by simpa using he
      injection h with h
      subst h
      simp
    · exact List.mem_cons_of_mem _ (ih h)
theorem WF.keysV {es : List (En κ)} {clk : Nat} (h : WF es clk) : (es.map keyV).Pairwise (fun a b => a.1 ≠ b.1) := by
  rw [List.pairwise_map]; exact h.keys
/-- The search for a key, as the model makes it. -/
theorem find_spec [KeyT κ] (es : List (En κ)) (k : κ) :
    (Instr.findNow (KeyT.d κ) (encK k) (es.map enE) 0 = some none ∧ ∀ e, e ∈ es → e.1 ≠ k) ∨
    ∃ j v b, Instr.findNow (KeyT.d κ) (encK k) (es.map enE) 0 = some (some (j, v)) ∧ es[j]? = some (k, v, b) := by
  rcases findNow_spec (d := KeyT.d κ) (k := encK k) (KeyT.ok k) (es.map enE) 0 (fun x hx => by
    obtain ⟨e, _, rfl⟩ := List.mem_map.1 hx
    exact KeyT.ok e.1) with ⟨h1, h2⟩ | ⟨j, e, h1, h2, h3⟩
  · exact .inl ⟨h1, fun e he hk => h2 (enE e) (List.mem_map.2 ⟨e, he, rfl⟩) (by rw [← hk]; rfl)⟩
  · rw [List.getElem?_map, Option.map_eq_some_iff] at h2
    obtain ⟨a, ha, rfl⟩ := h2
    have : a.1 = k := KeyT.inj h3
    subst this
    exact .inr ⟨j, a.2.1, a.2.2, by rw [Nat.zero_add] at h1; exact h1, ha⟩
theorem erase_at [DecidableEq κ] {es : List (En κ)} {k : κ} {v : Value} {b : Nat} (hk : es.Pairwise (fun a b => a.1 ≠ b.1)) {j : Nat} (hj : es[j]? = some (k, v, b)) : es.eraseIdx j = es.filter (fun e => decide (e.1 ≠ k)) := by
  induction es generalizing j with
  | nil => simp at hj
  | cons e es ih =>
    rw [List.pairwise_cons] at hk
    cases j with
    | zero =>
      simp only [List.getElem?_cons_zero, Option.some.injEq] at hj
      subst hj
      simp only [List.eraseIdx_cons_zero, List.filter_cons, ne_eq, not_true_eq_false, decide_false, Bool.false_eq_true, if_false]
      rw [List.filter_eq_self.2]
      intro a ha
      have := hk.1 a ha
      simp; exact fun e => this e.symm
    | succ j =>
      simp only [List.getElem?_cons_succ] at hj
      have hm : (k, v, b) ∈ es := List.mem_of_getElem? hj
      have hne : e.1 ≠ k := hk.1 _ hm
      simp only [List.eraseIdx_cons_succ, List.filter_cons, ne_eq, hne, not_false_eq_true, decide_true, if_true]
      rw [ih hk.2 hj]
theorem modify_at [DecidableEq κ] {es : List (En κ)} {k : κ} {v u : Value} {b : Nat} (hk : es.Pairwise (fun a b => a.1 ≠ b.1)) {j : Nat} (hj : es[j]? = some (k, v, b)) : es.modify j (fun e => (k, u, e.2.2)) = es.map (fun e => if e.1 = k then (k, u, e.2.2) else e) := by
  induction es generalizing j with
  | nil => simp at hj
  | cons e es ih =>
    rw [List.pairwise_cons] at hk
    cases j with
    | zero =>
      simp only [List.getElem?_cons_zero, Option.some.injEq] at hj
      subst hj
      simp only [List.modify_zero_cons, List.map_cons, if_true]
      congr 1
      rw [List.map_congr_left (g := id) (fun a ha => ?_), List.map_id]
      have := hk.1 a ha
      simp; exact fun e => absurd e.symm this
    | succ j =>
      simp only [List.getElem?_cons_succ] at hj
      have hm : (k, v, b) ∈ es := List.mem_of_getElem? hj
      have hne : e.1 ≠ k := hk.1 _ hm
      simp only [List.modify_succ_cons, List.map_cons, if_neg hne]
      rw [ih hk.2 hj]

/-! ### Steps -/
variable {σ : AS} {X : Ce} {R : List Ck} {P : Program} {K : Value → AS → Prop} {r i : Nat} {it : Option (Nat × List κ)} {l : List (κ × Value)} {t kt et : TypeId} {k : κ} {v z : Value} {vis : List κ}
theorem sat_set {w : World} {g : Nat} {o o' : Go.Obj} {ob : Ob} (hw : Sat σ w) (hg : σ.m g = some ob) (ho : ob = .other o) : Sat (σ.put g (.other o')) (setBlock w g o') ∧ KeepP σ.live w (setBlock w g o') := by
  subst ho
  have hh : w.heap[g]? = some o := hw.m g _ hg
  have hlt : g < w.heap.size := (Array.getElem?_eq_some_iff.1 hh).1
  have hne : ∀ k, k ≠ g → (setBlock w g o').heap[k]? = w.heap[k]? := fun k hk => by
    show (w.heap.setIfInBounds g o')[k]? = _
    rw [Array.getElem?_setIfInBounds, if_neg (fun e => hk e.symm)]
  refine ⟨⟨?_, ?_, ?_⟩, ⟨rfl, rfl, rfl, ?_, fun k hk hn => hne k ?_⟩⟩
  · show (w.heap.setIfInBounds g o').size = _
    rw [Array.size_setIfInBounds]; exact hw.sz
  · intro k ob hk
    by_cases e : k = g
    · subst e
      rw [put_eq, hg] at hk
      injection hk with hk; subst hk
      show (w.heap.setIfInBounds k o')[k]? = _
      rw [Array.getElem?_setIfInBounds, if_pos rfl, if_pos hlt]
    · rw [put_ne e] at hk
      exact obAt_congr (hne k e) (hw.m k ob hk)
  · intro b o v hv
    rw [put_c] at hv
    have e : b ≠ g := by
      rintro rfl
      have := (σ.wc b o (by simp [hv])).2
      rw [hg] at this; cases this
    rw [World.cell?_of_block (w := w) (a := ⟨b, o, none⟩) (hne b e)]
    exact hw.c b o v hv
  · show w.heap.size ≤ (w.heap.setIfInBounds g o').size
    rw [Array.size_setIfInBounds]; exact Nat.le_refl _
  · rintro rfl; exact hn (by unfold AS.live; rw [hg]; simp)
theorem out_set {w : World} {g : Nat} {o o' : Go.Obj} (hw : Sat σ w) (hg : σ.m g = some (.other o)) {u : Value} (hk : K u (σ.put g (.other o'))) : Out σ w K u (setBlock w g o') :=
  ⟨(sat_set hw hg rfl).2, _, (sat_set hw hg rfl).1, Fol.put _ _ _, hk⟩
theorem Mp.mem {F : List Nat} {es : List (En κ)} {clk : Nat} (h : ItOk σ r es clk F it) : r ∈ F := by
  unfold ItOk at h
  split at h
  · rw [h]; simp
  · rw [h.1]; simp
theorem lk_by [KeyT κ] [DecidableEq κ] (h : Hs σ X (Mp r it l :: R)) (ht : P.underlying t = some (.map kt et)) (hk : P.underlying kt = some (KeyT.d κ)) (hz : ∀ w, (zeroValue et).run P w = .ok z w)
    (hK : K ((l.lookup k).getD z) σ) : kGen P (.lk t false) [.map (some r), encK k] σ K := by
  obtain ⟨F, ⟨es, clk, rfl, h2, h3, h4⟩, _⟩ := h.s
  intro w hw
  have hh : w.heap[r]? = some (mapO es clk) := hw.m r _ h3
  refine ⟨_, w, ?_, Out.same hw hK⟩
  simp only [lkSem, Instr.lookup, Sem.run_bind, run_underlying ht, Result.andThen_ok, Go.MapKept.run_getObj_map hh, Sem.run_pure, run_checkKey hk (KeyT.ok k)]
  rcases find_spec es k with ⟨h5, h6⟩ | ⟨j, v, b, h5, h6⟩
  · simp only [run_findKey hk h5, Result.andThen_ok, Sem.run_bind, hz, Sem.run_pure]
    rw [lookup_none (fun p hp => by
      obtain ⟨e, he, rfl⟩ := List.mem_map.1 hp
      exact h6 e he)]
    rfl
  · simp only [run_findKey hk h5, Result.andThen_ok, Sem.run_pure]
    rw [lookup_some h2.keysV (List.mem_map.2 ⟨_, List.mem_of_getElem? h6, rfl⟩ : (k, v) ∈ _)]
    rfl
theorem lk2_by [KeyT κ] [DecidableEq κ] (h : Hs σ X (Mp r it l :: R)) (ht : P.underlying t = some (.map kt et)) (hk : P.underlying kt = some (KeyT.d κ)) (hz : ∀ w, (zeroValue et).run P w = .ok z w)
    (hK : K (.tuple #[(l.lookup k).getD z, .bool (l.lookup k).isSome]) σ) : kGen P (.lk t true) [.map (some r), encK k] σ K := by
  obtain ⟨F, ⟨es, clk, rfl, h2, h3, h4⟩, _⟩ := h.s
  intro w hw
  have hh : w.heap[r]? = some (mapO es clk) := hw.m r _ h3
  refine ⟨_, w, ?_, Out.same hw hK⟩
  simp only [lkSem, Instr.lookup, Sem.run_bind, run_underlying ht, Result.andThen_ok, Go.MapKept.run_getObj_map hh, Sem.run_pure, run_checkKey hk (KeyT.ok k)]
  rcases find_spec es k with ⟨h5, h6⟩ | ⟨j, v, b, h5, h6⟩
  · simp only [run_findKey hk h5, Result.andThen_ok, Sem.run_bind, hz, Sem.run_pure]
    rw [lookup_none (fun p hp => by
      obtain ⟨e, he, rfl⟩ := List.mem_map.1 hp
      exact h6 e he)]
    rfl
  · simp only [run_findKey hk h5, Result.andThen_ok, Sem.run_pure]
    rw [lookup_some h2.keysV (List.mem_map.2 ⟨_, List.mem_of_getElem? h6, rfl⟩ : (k, v) ∈ _)]
    rfl
theorem len_by [KeyT κ] {ty : TypeId} (h : Hs σ X (Mp r it l :: R)) (ht : P.underlying t = some (.map kt et)) (hK : K (.int .i64 l.length) σ) : kGen P (.blt .len [t] ty) [.map (some r)] σ K := by
  obtain ⟨F, ⟨es, clk, rfl, h2, h3, h4⟩, _⟩ := h.s
  intro w hw
  have hh : w.heap[r]? = some (mapO es clk) := hw.m r _ h3
  refine ⟨_, w, ?_, Out.same hw hK⟩
  simp [lkSem, bltSem, Builtin.len_, run_underlying ht, Go.MapKept.run_getObj_map hh, goInt]
/-- What a turn of the entries leaves of the map. -/
theorem Mp.turn [KeyT κ] (h : Hs σ X (Mp r it l :: R)) : ∃ es clk, es.map keyV = l ∧ WF es clk ∧ σ.m r = some (.other (mapO es clk)) ∧ ∀ es' clk' , WF es' clk' → (it = none ∨ (clk' = clk ∧ ∀ e, e ∈ es' → ∃ u, (e.1, u, e.2.2) ∈ es)) → Hs (σ.put r (.other (mapO es' clk'))) X (Mp r it (es'.map keyV) :: R) := by
  obtain ⟨F, ⟨es, clk, rfl, h2, h3, h4⟩, hk⟩ := h.turn
  refine ⟨es, clk, rfl, h2, h3, fun es' clk' hw hi => ?_⟩
  refine hk (F' := F) ((Chg.refl _ _).put (.inl (Mp.mem h4)) _) ⟨es', clk', rfl, hw, by rw [put_eq, h3]; rfl, ?_⟩ (fun g hg => .inl hg)
  unfold ItOk at h4 ⊢
  split at h4
  · exact h4
  · obtain ⟨h5, h6, seen, h7, h8, h9, h10⟩ := h4
    rcases hi with hi | ⟨rfl, hi⟩
    · cases hi
    · refine ⟨h5, h6, seen, by rw [put_ne (Ne.symm h6)]; exact h7, fun e he => ?_, h9, fun e he hv => ?_⟩
      · obtain ⟨u, hu⟩ := hi e he
        exact (h8 (e.1, u, e.2.2) hu)
      · obtain ⟨u, hu⟩ := hi e he
        exact (h10 (e.1, u, e.2.2) hu hv)
theorem del_by [KeyT κ] [DecidableEq κ] {ty t2 : TypeId} (h : Hs σ X (Mp r it l :: R)) (ht : P.underlying t = some (.map kt et)) (hk : P.underlying kt = some (KeyT.d κ))
    (hK : ∀ σ', Hs σ' X (Mp r it (del l k) :: R) → K (.tuple #[]) σ') : kGen P (.blt .delete [t, t2] ty) [.map (some r), encK k] σ K := by
  obtain ⟨es, clk, rfl, h2, h3, ht'⟩ := Mp.turn h
  intro w hw
  have hh : w.heap[r]? = some (mapO es clk) := hw.m r _ h3
  have hwf : WF (es.filter (fun e => decide (e.1 ≠ k))) clk := ⟨h2.keys.filter _, h2.born.filter _, fun e he => h2.lt e (List.mem_filter.1 he).1⟩
  have hfin := hK _ (by
    have := ht' _ clk hwf (.inr ⟨rfl, fun e he => ⟨e.2.1, (List.mem_filter.1 he).1⟩⟩)
    have e : (es.filter (fun e => decide (e.1 ≠ k))).map keyV = del (es.map keyV) k := by
      unfold del
      rw [List.filter_map]
      rfl
    rw [e] at this
    exact this)
  refine ⟨_, _, ?_, out_set hw h3 hfin⟩
  simp only [lkSem, bltSem, Builtin.delete_, Sem.run_bind, List.getElem?_toArray, List.getElem?_cons_zero, List.getElem?_cons_succ, run_underlying ht, Result.andThen_ok, Go.MapKept.run_getObj_map hh, run_checkKey hk (KeyT.ok k)]
  rcases find_spec es k with ⟨h5, h6⟩ | ⟨j, v, b, h5, h6⟩
  · have e : es.filter (fun e => decide (e.1 ≠ k)) = es := List.filter_eq_self.2 (fun e he => by simpa using h6 e he)
    rw [e]
    simp only [run_findKey hk h5, Result.andThen_ok, Sem.run_bind, Go.MapKept.run_setObj_map _ hh, Sem.run_pure]
    rfl
  · rw [← erase_at h2.keys h6]
    have hj : j < es.length := (List.getElem?_eq_some_iff.1 h6).1
    have e : mapO (es.eraseIdx j) clk = .map ((es.map enE).toArray.eraseIdxIfInBounds j) clk := by
      unfold mapO
      congr 1
      apply Array.toList_inj.1
      rw [Array.eraseIdxIfInBounds, dif_pos (by simpa using hj)]
      simp [Go.ChangeMaps.map_eraseIdx]
    rw [e]
    simp only [run_findKey hk h5, Result.andThen_ok, Sem.run_bind, Go.MapKept.run_setObj_map _ hh, Sem.run_pure]
    rfl
theorem mup_by [KeyT κ] [DecidableEq κ] (h : Hs σ X (Mp r none l :: R)) (ht : P.underlying t = some (.map kt et)) (hk : P.underlying kt = some (KeyT.d κ))
    (hK : ∀ σ', Hs σ' X (Mp r none (ins l k v) :: R) → K undef σ') : kGen P (.mup t) [.map (some r), encK k, v] σ K := by
  obtain ⟨es, clk, rfl, h2, h3, ht'⟩ := Mp.turn h
  intro w hw
  have hh : w.heap[r]? = some (mapO es clk) := hw.m r _ h3
  rcases find_spec es k with ⟨h5, h6⟩ | ⟨j, v0, b, h5, h6⟩
  · have hl : (es.map keyV).lookup k = none := lookup_none (fun p hp => by
      obtain ⟨e, he, rfl⟩ := List.mem_map.1 hp
      exact h6 e he)
    have hwf : WF (es ++ [(k, v, clk)]) (clk + 1) := ⟨by
      rw [List.pairwise_append]
      refine ⟨h2.keys, by simp, fun a ha b hb => ?_⟩
      simp at hb; subst hb; exact h6 a ha, by
      rw [List.pairwise_append]
      refine ⟨h2.born, by simp, fun a ha b hb => ?_⟩
      simp at hb; subst hb; exact h2.lt a ha, fun e he => by
      simp at he
      rcases he with he | rfl
      · have := h2.lt e he; omega
      · show clk < _; omega⟩
    have hfin := hK _ (by
      have := ht' _ _ hwf (.inl rfl)
      have e : (es ++ [(k, v, clk)]).map keyV = ins (es.map keyV) k v := by
        unfold ins
        rw [hl]
        simp [keyV]
      rw [e] at this
      exact this)
    refine ⟨_, _, ?_, out_set hw h3 hfin⟩
    simp only [lkSem, Instr.mapUpdate, Sem.run_bind, run_underlying ht, Result.andThen_ok, Go.MapKept.run_getObj_map hh, run_checkKey hk (KeyT.ok k)]
    have h5' : Instr.findNow (KeyT.d κ) (encK k) ((es.map enE).toArray).toList 0 = some none := h5
    simp only [run_findKey hk h5', Result.andThen_ok, Sem.run_bind, Go.MapKept.run_setObj_map _ hh, Sem.run_pure]
    have e : mapO (es ++ [(k, v, clk)]) (clk + 1) = .map ((es.map enE).toArray.push { key := encK k, val := v, born := clk }) (clk + 1) := by
      unfold mapO
      congr 1
      simp [enE]
    rw [e]
    rfl
  · have hl : (es.map keyV).lookup k = some v0 := lookup_some h2.keysV (List.mem_map.2 ⟨_, List.mem_of_getElem? h6, rfl⟩ : (k, v0) ∈ _)
    have hwf : WF (es.map (fun e => if e.1 = k then (k, v, e.2.2) else e)) clk := by
      refine ⟨?_, ?_, fun e he => ?_⟩
      · rw [List.pairwise_map]
        refine h2.keys.imp (fun {a b} hab => ?_)
        have ea : ∀ a : En κ, (if a.1 = k then ((k, v, a.2.2) : En κ) else a).1 = a.1 := fun a => by split <;> simp_all
        rw [ea, ea]; exact hab
      · rw [List.pairwise_map]
        refine h2.born.imp (fun {a b} hab => ?_)
        have ea : ∀ a : En κ, (if a.1 = k then ((k, v, a.2.2) : En κ) else a).2.2 = a.2.2 := fun a => by split <;> simp_all
        rw [ea, ea]; exact hab
      · obtain ⟨a, ha, rfl⟩ := List.mem_map.1 he
        have ea : (if a.1 = k then ((k, v, a.2.2) : En κ) else a).2.2 = a.2.2 := by split <;> simp_all
        rw [ea]; exact h2.lt a ha
    have hfin := hK _ (by
      have := ht' _ _ hwf (.inl rfl)
      have e : (es.map (fun e => if e.1 = k then (k, v, e.2.2) else e)).map keyV = ins (es.map keyV) k v := by
        unfold ins
        rw [hl]
        simp only [Option.isSome_some, if_true, List.map_map]
        refine List.map_congr_left (fun a _ => ?_)
        simp only [Function.comp, keyV]
        by_cases hak : a.1 = k <;> simp [hak]
      rw [e] at this
      exact this)
    refine ⟨_, _, ?_, out_set hw h3 hfin⟩
    simp only [lkSem, Instr.mapUpdate, Sem.run_bind, run_underlying ht, Result.andThen_ok, Go.MapKept.run_getObj_map hh, run_checkKey hk (KeyT.ok k)]
    have h5' : Instr.findNow (KeyT.d κ) (encK k) ((es.map enE).toArray).toList 0 = some (some (j, v0)) := h5
    simp only [run_findKey hk h5', Result.andThen_ok]
    have hkey : ((((es.map enE).toArray)[j]?).map (·.key)).getD (encK k) = encK k := by
      simp [h6, enE]
    have hst : (Instr.keyThatStays ((((es.map enE).toArray)[j]?).map (·.key) |>.getD (encK k)) (encK k)).run P w = .ok (encK k) w := by
      rw [hkey]
      unfold Instr.keyThatStays
      rw [if_pos (KeyT.stays k)]
      rfl
    simp only [Sem.run_bind, hst, Result.andThen_ok, Go.MapKept.run_setObj_map _ hh, Sem.run_pure]
    have e : mapO (es.map (fun e => if e.1 = k then (k, v, e.2.2) else e)) clk = .map ((es.map enE).toArray.modify j fun e => { e with key := encK k, val := v }) clk := by
      rw [← modify_at h2.keys h6]
      unfold mapO
      congr 1
      apply Array.toList_inj.1
      simp only [Array.toList_modify]
      have mm : ∀ (es : List (En κ)) (j : Nat), (es.modify j (fun e => (k, v, e.2.2))).map enE = (es.map enE).modify j (fun e : MapEntry => { e with key := encK k, val := v }) := by
        intro es
        induction es with
        | nil => intro j; cases j <;> rfl
        | cons e es ih =>
          intro j
          cases j with
          | zero => rfl
          | succ j => simp only [List.modify_succ_cons, List.map_cons, ih j]
      exact mm es j
    rw [e]
    rfl
theorem rng_by [KeyT κ] (h : Hs σ X (Mp r none l :: R)) (ht : P.underlying t = some (.map kt et))
    (hK : ∀ σ', Hs σ' X (Mp r (some (σ.n, [])) l :: R) → K (.pointer (some ⟨σ.n, 0, none⟩)) σ') : kGen P (.rng t) [.map (some r)] σ K := by
  obtain ⟨F, ⟨es, clk, rfl, h2, h3, h4⟩, hk⟩ := h.turn
  have h4 : F = [r] := h4
  subst h4
  have hlt := σ.lt h3
  intro w hw
  have hh : w.heap[r]? = some (mapO es clk) := hw.m r _ h3
  have hs := hw.new_ (o := .mapIter (some r) clk #[] clk) (ob := .other (.mapIter (some r) clk #[] clk)) (fun _ he => he)
  have hz : w.heap.size = σ.n := hw.sz
  refine ⟨_, _, run_range_map w t kt et r _ clk ht hh, ?_⟩
  rw [hz]
  refine ⟨KeepP.alloc _ _ _, _, hs, Fol.new _ _, hK _ ?_⟩
  refine hk (F' := [r, σ.n]) ((Chg.refl _ _).new _) ⟨es, clk, rfl, h2, by rw [new_ne (by omega)]; exact h3, rfl, by omega, #[], new_eq_, by simp, by simp, by simp⟩ (fun g hg => by
    simp at hg ⊢
    rcases hg with rfl | rfl
    · exact .inl rfl
    · exact .inr (Nat.le_refl _))
theorem nxt_by [KeyT κ] {ty : TypeId} (h : Hs σ X (Mp r (some (i, vis)) l :: R)) (hdone : (∀ p, p ∈ l → p.1 ∈ vis) → K (.tuple #[.bool false]) σ)
    (hnext : ∀ k v σ', (k, v) ∈ l → k ∉ vis → Hs σ' X (Mp r (some (i, k :: vis)) l :: R) → K (.tuple #[.bool true, encK k, v]) σ') : kGen P (.nxt false ty) [.pointer (some ⟨i, 0, none⟩)] σ K := by
  obtain ⟨F, ⟨es, clk, rfl, h2, h3, h5, h6, seen, h7, h8, h9, h10⟩, hk⟩ := h.turn
  intro w hw
  have hh : w.heap[r]? = some (mapO es clk) := hw.m r _ h3
  have hi : w.heap[i]? = some (.mapIter (some r) clk seen clk) := hw.m i _ h7
  rcases run_next_at (P := P) w ty i r clk clk seen _ clk hi hh (fun x hx => by
    simp at hx
    obtain ⟨a, b, c, he, rfl⟩ := hx
    exact h2.lt _ he) (Nat.le_refl _) with ⟨h11, h12⟩ | ⟨e, he, w1, hw1, hrun⟩
  · refine ⟨_, w, h12, Out.same hw (hdone (fun p hp => ?_))⟩
    obtain ⟨e, he, rfl⟩ := List.mem_map.1 hp
    show e.1 ∈ vis
    rw [← h8 e he]
    have hsz : leftOf (es.map enE).toArray seen = #[] := Array.eq_empty_of_size_eq_zero h11
    unfold leftOf at hsz
    rw [Array.filter_eq_empty_iff] at hsz
    have := hsz (enE e) (by simp; exact ⟨e.1, e.2.1, e.2.2, he, rfl⟩)
    simpa [enE] using this
  · unfold leftOf at he
    simp at he
    obtain ⟨⟨a, b, c, hm, rfl⟩, hns⟩ := he
    have hs1 : Sat σ w1 := by
      rcases hw1 with rfl | rfl
      · exact hw
      · exact hw.drew
    have hkp : KeepP σ.live w w1 := by
      rcases hw1 with rfl | rfl
      · exact KeepP.refl _ _
      · exact KeepP.drewN _ _ 1
    refine ⟨_, _, hrun, ?_⟩
    obtain ⟨hs2, hk2⟩ := sat_set (o' := .mapIter (some r) clk (seen.push (enE (a, b, c)).born) clk) hs1 h7 rfl
    refine ⟨hkp.step hk2 (fun g hg => .inl hg), _, hs2, Fol.put _ _ _, hnext a b _ (List.mem_map.2 ⟨_, hm, rfl⟩) (fun hv => hns ((h8 _ hm).2 hv)) ?_⟩
    refine hk (F' := F) ((Chg.refl _ _).put (.inl (by rw [h5]; simp)) _) ⟨es, clk, rfl, h2, by rw [put_ne h6]; exact h3, h5, h6, _, by rw [put_eq, h7]; rfl, fun e he => ?_, fun s hs => ?_, fun e he hv => ?_⟩ (fun g hg => .inl hg)
    · simp only [Array.mem_push, List.mem_cons, h8 e he]
      constructor
      · rintro (hx | hx)
        · exact .inr hx
        · left
          by_cases heq : e = (a, b, c)
          · rw [heq]
          · exfalso
            have hx' : e.2.2 = c := hx
            have := h2.born
            rw [List.pairwise_iff_getElem] at this
            obtain ⟨x, hx1, rfl⟩ := List.getElem_of_mem he
            obtain ⟨y, hy1, hy2⟩ := List.getElem_of_mem hm
            rcases Nat.lt_trichotomy x y with hlt | rfl | hlt
            · have := this x y hx1 hy1 hlt; rw [hy2] at this; simp only at this; omega
            · exact heq hy2
            · have := this y x hy1 hx1 hlt; rw [hy2] at this; simp only at this; omega
      · rintro (hx | hx)
        · right
          have hx : e.1 = a := hx
          by_cases heq : e = (a, b, c)
          · rw [heq]; rfl
          · exfalso
            have := h2.keys
            rw [List.pairwise_iff_getElem] at this
            obtain ⟨x, hx1, rfl⟩ := List.getElem_of_mem he
            obtain ⟨y, hy1, hy2⟩ := List.getElem_of_mem hm
            rcases Nat.lt_trichotomy x y with hlt | rfl | hlt
            · have := this x y hx1 hy1 hlt; rw [hy2] at this; exact this hx
            · exact heq hy2
            · have := this y x hy1 hx1 hlt; rw [hy2] at this; exact this hx.symm
        · exact .inl hx
    · simp only [Array.mem_push] at hs
      rcases hs with hs | rfl
      · exact h9 s hs
      · exact h2.lt _ hm
    · simp only [List.head?_cons, Option.some.injEq] at hv
      refine ⟨seen, ?_⟩
      have heq : e = (a, b, c) := by
        by_cases heq : e = (a, b, c)
        · exact heq
        · exfalso
          have := h2.keys
          rw [List.pairwise_iff_getElem] at this
          obtain ⟨x, hx1, rfl⟩ := List.getElem_of_mem he
          obtain ⟨y, hy1, hy2⟩ := List.getElem_of_mem hm
          rcases Nat.lt_trichotomy x y with hlt | rfl | hlt
          · have := this x y hx1 hy1 hlt; rw [hy2] at this; exact this hv.symm
          · exact heq hy2
          · have := this y x hy1 hx1 hlt; rw [hy2] at this; exact this hv
      rw [heq]; rfl
/-- The key and the value of the step that was made. -/
theorem ent_by [KeyT κ] (h : Hs σ X (Mp r (some (i, k :: vis)) l :: R)) (hm : (k, v) ∈ l) (hK : K (.tuple #[encK k, v]) σ) : kGen P .ent [.pointer (some ⟨i, 0, none⟩)] σ K := by
  obtain ⟨F, ⟨es, clk, rfl, h2, h3, h5, h6, seen, h7, h8, h9, h10⟩, _⟩ := h.s
  intro w hw
  have hh : w.heap[r]? = some (mapO es clk) := hw.m r _ h3
  have hi : w.heap[i]? = some (.mapIter (some r) clk seen clk) := hw.m i _ h7
  obtain ⟨e, he, heq⟩ := List.mem_map.1 hm
  have e1 : e.1 = k := congrArg Prod.fst heq
  have e2 : e.2.1 = v := congrArg Prod.snd heq
  obtain ⟨s0, rfl⟩ := h10 e he (by simp [e1])
  have hb : ((es.map enE).map (·.born)).Nodup := by
    rw [List.map_map, List.Nodup, List.pairwise_map]
    exact h2.born.imp (fun hab he => by simp [enE] at he; omega)
  have := run_entry_at (P := P) w i r clk s0 _ clk (enE e) hi hh (by simp; exact ⟨e.1, e.2.1, e.2.2, he, rfl⟩) hb
  refine ⟨_, w, this, Out.same hw ?_⟩
  rw [← e1, ← e2] at hK
  exact hK
theorem Mp.over [KeyT κ] (h : Hs σ X (Mp r (some (i, vis)) l :: R)) : Hs σ X (Mp r none l :: R) := by
  obtain ⟨F, ⟨es, clk, rfl, h2, h3, h5, h6, _⟩, hk⟩ := h.turn
  exact hk (F' := [r]) (Chg.refl _ _) ⟨es, clk, rfl, h2, h3, rfl⟩ (fun g hg => .inl (by rw [h5]; simp at hg; simp [hg]))
theorem Mp.keys [KeyT κ] (h : Hs σ X (Mp r it l :: R)) : l.Pairwise (fun a b => a.1 ≠ b.1) := by
  obtain ⟨F, ⟨es, clk, rfl, h2, _⟩, _⟩ := h.s
  exact h2.keysV
theorem Hs.newMap [KeyT κ] (h : Hs σ X R) : Hs (σ.new (.other (.map #[] 0))) X (Mp (κ := κ) σ.n none [] :: R) :=
  h.more ((Chg.refl _ _).new _) ⟨[], 0, rfl, ⟨by simp, by simp, by simp⟩, new_eq_, rfl⟩ (by simp)
end
end Go.Proofs.YtpnefcapiiemdaaGreatDoor.E

/- Many blocks as one thing; nil maps. Conditions: as each theorem says. -/
namespace Go.Proofs.YtpnefcapiiemdaaGreatDoor.E
open Go.RowKit Go.Lib
set_option linter.unusedVariables false
set_option linter.unusedSimpArgs false

/-- Blocks of cells, as many as there are. -/
def Objs (ps : List (Nat × List Value)) : Ck := ⟨fun F X σ => F = ps.map Prod.fst ∧ (ps.map Prod.fst).Nodup ∧ ∀ q, q ∈ ps → σ.m q.1 = some (.cells q.2), fun ⟨h, h1, h2⟩ _ hm => ⟨h, h1, fun q hq => (hm _ (by rw [h]; exact List.mem_map.2 ⟨q, hq, rfl⟩)).trans (h2 q hq)⟩, fun {F X σ} ⟨h, h1, h2⟩ g hg => by
    rw [h] at hg
    obtain ⟨q, hq, rfl⟩ := List.mem_map.1 hg
    exact σ.lt (h2 q hq)⟩
section
variable {σ : AS} {X : Ce} {R : List Ck} {ps : List (Nat × List Value)} {p : Nat} {cs cs' : List Value}
def updO (ps : List (Nat × List Value)) (p : Nat) (cs : List Value) : List (Nat × List Value) := ps.map fun q => if q.1 = p then (p, cs) else q
theorem updO_fst : (updO ps p cs).map Prod.fst = ps.map Prod.fst := by
  unfold updO
  rw [List.map_map]
  refine List.map_congr_left (fun a _ => ?_)
  simp only [Function.comp]
  split
  · rename_i h; exact h.symm
  · rfl
theorem Hs.objs (h : Hs σ X (Objs ps :: R)) (hp : (p, cs) ∈ ps) : σ.m p = some (.cells cs) := by
  obtain ⟨_, ⟨_, _, h1⟩, _⟩ := h.s
  exact h1 _ hp
theorem Hs.objsN (h : Hs σ X (Objs ps :: R)) : (ps.map Prod.fst).Nodup := by
  obtain ⟨_, ⟨_, h1, _⟩, _⟩ := h.s
  exact h1
theorem Hs.putO (h : Hs σ X (Objs ps :: R)) (hp : (p, cs) ∈ ps) : Hs (σ.put p (.cells cs')) X (Objs (updO ps p cs') :: R) := by
  obtain ⟨F, ⟨rfl, hn, hm⟩, hk⟩ := h.turn
  have hpm : p ∈ ps.map Prod.fst := List.mem_map.2 ⟨_, hp, rfl⟩
  refine hk (F' := ps.map Prod.fst) ((Chg.refl _ _).put (.inl hpm) _) ⟨updO_fst.symm, by rw [updO_fst]; exact hn, fun q hq => ?_⟩ (fun g hg => .inl hg)
  unfold updO at hq
  obtain ⟨a, ha, rfl⟩ := List.mem_map.1 hq
  split
  · rename_i he
    show (σ.put p (.cells cs')).m p = _
    rw [put_eq, hm _ hp]; rfl
  · rename_i he
    rw [put_ne he]; exact hm a ha
/-- A block more. -/
theorem Hs.addO (h : Hs σ X (Objs ps :: R)) : Hs (σ.new (.cells cs)) X (Objs (ps ++ [(σ.n, cs)]) :: R) := by
  obtain ⟨F, ⟨rfl, hn, hm⟩, hk⟩ := h.turn
  have hlt : ∀ q, q ∈ ps → q.1 < σ.n := fun q hq => σ.lt (hm q hq)
  refine hk (F' := (ps ++ [(σ.n, cs)]).map Prod.fst) ((Chg.refl _ _).new _) ⟨rfl, ?_, fun q hq => ?_⟩ (fun g hg => ?_)
  · rw [List.map_append, List.nodup_append]
    refine ⟨hn, by simp, fun a ha b hb => ?_⟩
    obtain ⟨q, hq, rfl⟩ := List.mem_map.1 ha
    simp at hb; subst hb
    have := hlt q hq; omega
  · rcases List.mem_append.1 hq with hq | hq
    · rw [new_ne (by have := hlt q hq; omega)]; exact hm q hq
    · simp at hq; subst hq; exact new_eq_
  · rw [List.map_append, List.mem_append] at hg
    rcases hg with hg | hg
    · exact .inl hg
    · simp at hg; exact .inr (by omega)
/-- Some of them are forgotten. -/
theorem Hs.fewerO (h : Hs σ X (Objs ps :: R)) (f : Nat × List Value → Bool) : Hs σ X (Objs (ps.filter f) :: R) := by
  obtain ⟨F, ⟨rfl, hn, hm⟩, hk⟩ := h.turn
  refine hk (F' := (ps.filter f).map Prod.fst) (Chg.refl _ _) ⟨rfl, ?_, fun q hq => hm q (List.mem_filter.1 hq).1⟩ (fun g hg => .inl ?_)
  · exact hn.sublist (List.filter_sublist.map _)
  · obtain ⟨q, hq, rfl⟩ := List.mem_map.1 hg
    exact List.mem_map.2 ⟨q, (List.mem_filter.1 hq).1, rfl⟩
theorem Hs.noO (h : Hs σ X R) : Hs σ X (Objs [] :: R) := h.more (F := []) (Chg.refl _ _) ⟨rfl, by simp, by simp⟩ (by simp)
end

/-! ### Things at their places -/
theorem Sep.unfront {σ : AS} {X : Ce} {C : Ck} : ∀ {R : List Ck} {A : Nat → Prop} (i : Nat), i < R.length → Sep X σ (C :: R.eraseIdx i) A → Sep X σ (R.set i C) A
  | [], _, i, h, _ => by simp at h
  | C0 :: R, A, 0, _, h => h
  | C0 :: R, A, i + 1, hi, h => by
    obtain ⟨F, h1, h2, h3⟩ := Sep.swap h
    exact ⟨F, h1, h2, h3.unfront i (by simpa using hi)⟩
section
variable {σ : AS} {X : Ce} {R : List Ck} {C : Ck} {p : Nat} {cs cs' : List Value}
theorem Hs.unfront (i : Nat) (h : Hs σ X (C :: R.eraseIdx i)) (hi : i < R.length) : Hs σ X (R.set i C) := ⟨h.x, h.s.unfront i hi⟩
theorem Hs.celAt (i : Nat) (h : Hs σ X R) (hi : R[i]? = some (Cel p cs)) : σ.m p = some (.cells cs) := (h.front i hi).obj
theorem Hs.putAt (i : Nat) (h : Hs σ X R) (hi : R[i]? = some (Cel p cs)) : Hs (σ.put p (.cells cs')) X (R.set i (Cel p cs')) :=
  (h.front i hi).put.unfront i (List.getElem?_eq_some_iff.1 hi).1
end

/-! ### A thing made of things -/
def SepF (X : Ce) (σ : AS) : List Ck → List Nat → Prop
  | [], F => F = []
  | C :: R, F => ∃ F1 F2, F = F1 ++ F2 ∧ C.H F1 X σ ∧ (∀ g, g ∈ F1 → g ∉ F2) ∧ SepF X σ R F2
theorem SepF.loc {X X' : Ce} {σ σ' : AS} : ∀ {R : List Ck} {F : List Nat}, SepF X σ R F → Ce.le X X' → (∀ g, g ∈ F → σ'.m g = σ.m g) → SepF X' σ' R F
  | [], _, h, _, _ => h
  | C :: R, _, ⟨F1, F2, rfl, h1, h2, h3⟩, hx, hm => ⟨F1, F2, rfl, C.loc h1 hx (fun g hg => hm g (List.mem_append_left _ hg)), h2, h3.loc hx (fun g hg => hm g (List.mem_append_right _ hg))⟩
theorem SepF.live {X : Ce} {σ : AS} : ∀ {R : List Ck} {F : List Nat}, SepF X σ R F → ∀ g, g ∈ F → g < σ.n
  | [], _, h, g, hg => by rw [show _ = _ from h] at hg; cases hg
  | C :: R, _, ⟨F1, F2, rfl, h1, h2, h3⟩, g, hg => by
    rcases List.mem_append.1 hg with hg | hg
    · exact C.live h1 g hg
    · exact h3.live g hg
theorem Sep.split {X : Ce} {σ : AS} {R : List Ck} : ∀ {Cs : List Ck} {A : Nat → Prop}, Sep X σ (Cs ++ R) A → ∃ F, SepF X σ Cs F ∧ (∀ g, g ∈ F → ¬ A g) ∧ Sep X σ R (fun b => A b ∨ b ∈ F)
  | [], A, h => ⟨[], rfl, by simp, h.anti (fun g hg => hg.elim id (fun h => by cases h))⟩
  | C :: Cs, A, ⟨F1, h1, h2, h3⟩ => by
    obtain ⟨F2, h4, h5, h6⟩ := Sep.split h3
    refine ⟨F1 ++ F2, ⟨F1, F2, rfl, h1, fun g hg hg2 => h5 g hg2 (.inr hg), h4⟩, fun g hg => ?_, h6.anti (fun g hg => ?_)⟩
    · rcases List.mem_append.1 hg with hg | hg
      · exact h2 g hg
      · exact fun ha => h5 g hg (.inl ha)
    · rcases hg with hg | hg
      · exact .inl (.inl hg)
      · rcases List.mem_append.1 hg with hg | hg
        · exact .inl (.inr hg)
        · exact .inr hg
theorem Sep.unite {X : Ce} {σ : AS} {R : List Ck} : ∀ {Cs : List Ck} {A : Nat → Prop} {F : List Nat}, SepF X σ Cs F → (∀ g, g ∈ F → ¬ A g) → Sep X σ R (fun b => A b ∨ b ∈ F) → Sep X σ (Cs ++ R) A
  | [], A, F, h, _, h3 => h3.anti (fun g hg => .inl hg)
  | C :: Cs, A, _, ⟨F1, F2, rfl, h1, h2, h4⟩, hA, h3 => ⟨F1, h1, fun g hg => hA g (List.mem_append_left _ hg), Sep.unite h4 (fun g hg hg2 => by
      rcases hg2 with hg2 | hg2
      · exact hA g (List.mem_append_right _ hg) hg2
      · exact h2 g hg2 hg) (h3.anti (fun g hg => by
      rcases hg with (hg | hg) | hg
      · exact .inl hg
      · exact .inr (List.mem_append_left _ hg)
      · exact .inr (List.mem_append_right _ hg)))⟩
/-- Things under one name, something hidden. -/
def Exs {α : Type} (p : α → Prop) (f : α → List Ck) : Ck := ⟨fun F X σ => ∃ a, p a ∧ SepF X σ (f a) F, fun ⟨a, h, h1⟩ hx hm => ⟨a, h, h1.loc hx hm⟩, fun ⟨a, _, h1⟩ => h1.live⟩
section
variable {α : Type} {p : α → Prop} {f : α → List Ck} {σ : AS} {X : Ce} {R : List Ck}
theorem Hs.opened (h : Hs σ X (Exs p f :: R)) : ∃ a, p a ∧ Hs σ X (f a ++ R) := by
  obtain ⟨F, ⟨a, h1, h2⟩, h3, h4⟩ := h.s
  exact ⟨a, h1, h.x, Sep.unite h2 h3 h4⟩
theorem Hs.closed (a : α) (hp : p a) (h : Hs σ X (f a ++ R)) : Hs σ X (Exs p f :: R) := by
  obtain ⟨F, h1, h2, h3⟩ := Sep.split h.s
  exact ⟨h.x, F, ⟨a, hp, h1⟩, h2, h3⟩
end
end Go.Proofs.YtpnefcapiiemdaaGreatDoor.E
