/- Arguments of any type that is made of numbers, bools, strings, structs and slices: what they hold, as data; the start of a law's walk. Conditions: as each theorem says. -/
import Derived.Test.YtmgdkoidgoihfaaGreatDoorF6
import Derived.ChangeArms
import Derived.OpenShut
import Derived.ChangeShapes
namespace Go.Proofs.YtmgdkoidgoihfaaGreatDoor.E
open Go.RowKit Go.WideShapes

abbrev Ce := Nat → Nat → Option Value
def Ce.le (c c' : Ce) : Prop := ∀ b o v, c b o = some v → c' b o = some v
theorem Ce.le_refl (c : Ce) : c.le c := fun _ _ _ h => h
theorem Ce.le_trans {a b c : Ce} (h : a.le b) (k : b.le c) : a.le c := fun x y v e => k _ _ _ (h x y v e)

/-! ### A law begins -/
def start (w : World) : AS := ⟨fun _ => none, fun b o => w.cell? ⟨b, o, none⟩, size w, fun g h => absurd rfl h, fun b o h => by
  refine ⟨?_, rfl⟩
  cases hc : w.cell? ⟨b, o, none⟩ with
  | none => exact (h hc).elim
  | some v => exact block_lt_of_cell hc⟩
theorem sat_start (w : World) : Sat (start w) w := ⟨rfl, fun g ob h => (by cases h), fun b o v h => h⟩
theorem law_ok {P : Program} {f : Nat} {args : List Value} {w : World} (h : kCall P f args (start w) fun v _ => v = .bool true) : callP P f args w fun v w' => v = .bool true ∧ KeepP (fun _ => False) w w' :=
  callP_mono (h w (sat_start w)) fun v w' ⟨h1, _, _, _, h4⟩ => ⟨h4, ⟨h1.os, h1.tape, h1.output, h1.sz, fun k hk _ => h1.heap k hk (fun h => h rfl)⟩⟩
theorem KeepP.below {w w' : World} (h : KeepP (fun _ => False) w w') : Below w.heap.size w w' := ⟨h.os, h.tape, h.output, h.sz, fun k hk => h.heap k hk (fun h => h)⟩

/-! ### Data in cells that stay -/
/-- Strings; rows of bytes are none. -/
abbrev Str := List UInt8
class Rp (α : Type) where
  sz : Nat
  pos : 0 < sz
  rp : Ce → α → List Value → Prop
  len : ∀ {c a cs}, rp c a cs → cs.length = sz
  ok : ∀ {c a cs}, rp c a cs → cs.all okCell = true
  mono : ∀ {c c' a cs}, Ce.le c c' → rp c a cs → rp c' a cs
open Rp
def inI64 (n : Int) : Prop := -9223372036854775808 ≤ n ∧ n ≤ 9223372036854775807
instance : Rp Int := ⟨1, by decide, fun _ n cs => cs = [.int .i64 n] ∧ inI64 n, fun h => by rw [h.1]; rfl, fun h => by rw [h.1]; rfl, fun _ h => h⟩
instance : Rp UInt8 := ⟨1, by decide, fun _ n cs => cs = [.int .u8 n.toNat], fun h => by rw [h]; rfl, fun h => by rw [h]; rfl, fun _ h => h⟩
instance : Rp Bool := ⟨1, by decide, fun _ b cs => cs = [.bool b], fun h => by rw [h]; rfl, fun h => by rw [h]; rfl, fun _ h => h⟩
instance (priority := high) : Rp Str := ⟨1, by decide, fun _ s cs => cs = [.string (bs s)] ∧ List.length s ≤ maxLen, fun h => by rw [h.1]; rfl, fun h => by rw [h.1]; rfl, fun _ h => h⟩
instance {α β : Type} [Rp α] [Rp β] : Rp (α × β) := ⟨sz α + sz β, by have := pos (α := α); omega, fun c a cs => ∃ x y, cs = x ++ y ∧ rp c a.1 x ∧ rp c a.2 y,
  fun ⟨x, y, h, h1, h2⟩ => by rw [h, List.length_append, len h1, len h2], fun ⟨x, y, h, h1, h2⟩ => by rw [h, List.all_append, ok h1, ok h2]; rfl, fun hc ⟨x, y, h, h1, h2⟩ => ⟨x, y, h, mono hc h1, mono hc h2⟩⟩
/-- From place (b, o) on stand these, one behind the other. -/
def Row {α : Type} [Rp α] (c : Ce) (b o : Nat) (l : List α) : Prop := ∀ i (h : i < l.length), ∃ cs, rp c l[i] cs ∧ ∀ j v, cs[j]? = some v → c b (o + i * sz α + j) = some v
def RepL {α : Type} [Rp α] (c : Ce) (v : Value) (l : List α) : Prop := ∃ a cap, v = .slice a l.length cap ∧ l.length ≤ cap ∧ cap ≤ maxLen ∧ (l = [] ∨ ∃ b o, a = some ⟨b, o, none⟩ ∧ Row c b o l)
theorem Row.mono {α : Type} [Rp α] {c c' : Ce} {b o : Nat} {l : List α} (hc : c.le c') (h : Row c b o l) : Row c' b o l := fun i hi => by
  obtain ⟨cs, h1, h2⟩ := h i hi
  exact ⟨cs, Rp.mono hc h1, fun j v hv => hc _ _ _ (h2 j v hv)⟩
theorem RepL.mono {α : Type} [Rp α] {c c' : Ce} {v : Value} {l : List α} (hc : c.le c') (h : RepL c v l) : RepL c' v l := by
  obtain ⟨a, cap, h1, h2, h3, h4⟩ := h
  refine ⟨a, cap, h1, h2, h3, ?_⟩
  rcases h4 with h4 | ⟨b, o, h5, h6⟩
  · exact .inl h4
  · exact .inr ⟨b, o, h5, h6.mono hc⟩
instance {α : Type} [Rp α] : Rp (List α) := ⟨1, by decide, fun c l cs => ∃ v, cs = [v] ∧ RepL c v l, fun ⟨v, h, _⟩ => by rw [h]; rfl, fun ⟨v, h, h2⟩ => by
    obtain ⟨a, cap, h3, _⟩ := h2
    rw [h, h3]; rfl, fun hc ⟨v, h, h2⟩ => ⟨v, h, h2.mono hc⟩⟩
section
variable {α β : Type} [Rp α] [Rp β] {c : Ce} {σ : AS} {v : Value} {l : List α}
theorem Row.lds {b o : Nat} (h : Row σ.c b o l) (i : Nat) (hi : i < l.length) : ∃ cs, rp σ.c l[i] cs ∧ ldsS σ b (o + i * sz α) (sz α) = some cs := by
  obtain ⟨cs, h1, h2⟩ := h i hi
  refine ⟨cs, h1, ?_⟩
  have hl := len h1
  have key : ∀ (cs : List Value) (n o : Nat), cs.length = n → (∀ j v, cs[j]? = some v → σ.c b (o + j) = some v) → ldsS σ b o n = some cs := by
    intro cs
    induction cs with
    | nil => intro n o hn _; simp at hn; subst hn; rfl
    | cons v r ih =>
      intro n o hn hc
      simp at hn
      subst hn
      have h0 := hc 0 v rfl
      simp only [ldsS, Nat.add_zero] at h0 ⊢
      rw [ld_c h0, Option.bind_some, ih r.length (o + 1) rfl (fun j u hu => by
        have := hc (j + 1) u (by simpa using hu)
        rw [show o + 1 + j = o + (j + 1) from by omega]; exact this)]
      rfl
  exact key cs _ _ hl (fun j v hv => by
    have := h2 j v hv
    exact this)
/-- One cell of an element. -/
theorem Row.cell {b o : Nat} (h : Row σ.c b o l) (i : Nat) (hi : i < l.length) : ∃ cs, rp σ.c l[i] cs ∧ cs.length = sz α ∧ ∀ j v, cs[j]? = some v → σ.ld b (o + i * sz α + j) = some v := by
  obtain ⟨cs, h1, h2⟩ := h i hi
  exact ⟨cs, h1, len h1, fun j v hv => ld_c (h2 j v hv)⟩
end

/-! ### What an argument's reading says -/
/-- The shape of a type's cells. -/
inductive Sh where
  | any | int (k : IntKind) | bool | str | slice (e : Sh) (sz : Nat) | fld (n : Nat) (s r : Sh) | fin
def consec (P : Program) (total : Nat) : Nat → List Field → Bool
  | o, [] => o == total
  | o, f :: r => f.offset == o && consec P total (o + P.cellsOf f.type) r
def shOf (P : Program) : Nat → TypeId → Sh
  | 0, _ => .any
  | n + 1, t =>
    match P.underlying t with
    | some .bool => .bool
    | some (.int k) => .int k
    | some .string => .str
    | some (.slice e) => if 0 < P.cellsOf e then .slice (shOf P n e) (P.cellsOf e) else .any
    | some (.struct fs) => if consec P (P.cellsOf t) 0 fs.toList then fs.toList.foldr (fun f r => .fld (P.cellsOf f.type) (shOf P n f.type) r) .fin else .any
    | some (.array m e) => if m * P.cellsOf e = P.cellsOf t ∧ m ≤ 64 then (List.replicate m e).foldr (fun e r => .fld (P.cellsOf e) (shOf P n e) r) .fin else .any
    | _ => .any
/-- n elements of sz cells each, element i's cells are f i: where there is an element at all. -/
def Arr (c : Ce) (a : Option Addr) (n sz : Nat) (f : Nat → List Value) : Prop :=
  n = 0 ∨ ∃ b o, a = some ⟨b, o, none⟩ ∧ ∀ i, i < n → ∀ j v, (f i)[j]? = some v → c b (o + i * sz + j) = some v
def RD (c : Ce) : Sh → List Value → Prop
  | .any, _ => True
  | .int k, cs => ∃ n, cs = [.int k n] ∧ (Lit.int k n).wf = true
  | .bool, cs => ∃ b, cs = [.bool b]
  | .str, cs => ∃ l, cs = [.string (bs l)] ∧ l.length ≤ maxLen
  | .slice e sz, cs => ∃ a n cap f, cs = [.slice a n cap] ∧ n ≤ cap ∧ cap ≤ maxLen ∧ Arr c a n sz f ∧ ∀ i, i < n → (f i).length = sz ∧ RD c e (f i)
  | .fld n s r, cs => ∃ x y, cs = x ++ y ∧ x.length = n ∧ RD c s x ∧ RD c r y
  | .fin, cs => cs = []
def OV (c : Ce) (s : Sh) (v : Value) : Prop := match s with
  | .any => True
  | .fld n s r => ∃ cs, v = .agg cs.toArray ∧ RD c (.fld n s r) cs
  | .fin => ∃ cs, v = .agg cs.toArray ∧ RD c .fin cs
  | s => RD c s [v]
section
variable {H : Type} {enc : TypeId × Value → H} {P : Program} {w w' : World} {base : Nat} {spare : Nat → Bool} {held : Bool}
theorem arr_of_cells {a : Addr} {n sz : Nat} {g : Nat → List Value} (h : ∀ i, i < n → w.cells? base (a.add (i * sz)) sz = some (g i)) (hsz : 0 < sz) : Arr (start w).c (some a) n sz g ∧ ∀ i, i < n → (g i).length = sz := by
  have hlen : ∀ i, i < n → (g i).length = sz := by
    intro i hi
    exact (World.cells?_some (h i hi)).2.1
  refine ⟨?_, hlen⟩
  rcases Nat.eq_zero_or_pos n with h0 | h0
  · exact .inl h0
  · have h1 := (World.cells?_some (h 0 h0)).2.2 0 hsz
    have hg : ∃ v, (g 0)[0]? = some v := ⟨(g 0)[0]'(by rw [hlen 0 h0]; exact hsz), by simp⟩
    obtain ⟨v, hv⟩ := hg
    rw [hv] at h1
    have hx : (a.add (0 * sz)).add 0 = a := by unfold Addr.add; simp
    rw [hx] at h1
    have hsp : a.spot = none := by
      cases hs : a.spot with
      | none => rfl
      | some s =>
        unfold World.cell? at h1
        rw [hs] at h1
        split at h1 <;> simp at h1
    have hxe : a = ⟨a.block, a.off, none⟩ := by cases a; simp_all
    refine .inr ⟨a.block, a.off, by rw [← hxe], ?_⟩
    intro i hi j v hv
    have hj : j < sz := by
      have := (List.getElem?_eq_some_iff.1 hv).1
      rwa [hlen i hi] at this
    have := (World.cells?_some (h i hi)).2.2 j hj
    rw [hxe, add_eq, add_eq, hv] at this
    exact this

theorem rd_of_trod : ∀ (n : Nat) (t : TypeId) (fuel : Nat) (cs : List Value) (x : DataW H × List MemPlace), DataW.trod enc P w base spare held fuel t cs = some x → RD (start w).c (shOf P n t) cs
  | 0, _, _, _, _, _ => trivial
  | n + 1, t, fuel, cs, x, h => by
    unfold shOf
    split
    · rename_i ht
      obtain ⟨b, hb, _⟩ := DataW.trod_bool ht h
      exact ⟨b, hb⟩
    · rename_i k ht
      obtain ⟨m, hm, _, hw⟩ := DataW.trod_int ht h
      exact ⟨m, hm, hw⟩
    · rename_i ht
      obtain ⟨s, hs, _, hl⟩ := DataW.trod_string ht h
      exact ⟨s.data.toList, by rw [hs, ← bs_of], by simpa [ByteArray.size_data] using hl⟩
    · rename_i e ht
      split
      rotate_left
      · trivial
      rename_i h0
      rcases DataW.trod_slice ht h with ⟨hcs, _⟩ | ⟨a, len, cap, elems, rest, m, _, hcs, _, _, hl, hc, hel, hall, _⟩
      · exact ⟨none, 0, 0, fun _ => [], hcs, Nat.le_refl _, Nat.zero_le _, .inl rfl, fun i hi => by omega⟩
      · have hget : ∀ i, i < len → ∃ c y, w.cells? base (a.add (i * P.cellsOf e)) (P.cellsOf e) = some c ∧ DataW.trod enc P w base spare held m e c = some y := by
          intro i hi
          have h1 := hall i hi
          have h2 : ∃ y, elems[i]? = some y := ⟨elems[i]'(by omega), by simp⟩
          obtain ⟨y, hy⟩ := h2
          rw [hy, Option.bind_eq_some_iff] at h1
          obtain ⟨c, hc1, hc2⟩ := h1
          exact ⟨c, y, hc1, hc2⟩
        have hg : ∀ i, i < len → w.cells? base (a.add (i * P.cellsOf e)) (P.cellsOf e) = some ((w.cells? base (a.add (i * P.cellsOf e)) (P.cellsOf e)).getD []) := by
          intro i hi
          obtain ⟨c, y, h1, _⟩ := hget i hi
          rw [h1]; rfl
        have hrd : ∀ i, i < len → RD (start w).c (shOf P n e) ((w.cells? base (a.add (i * P.cellsOf e)) (P.cellsOf e)).getD []) := by
          intro i hi
          obtain ⟨c, y, h1, h2⟩ := hget i hi
          rw [h1]
          exact rd_of_trod n e m c y h2
        obtain ⟨h1, h2⟩ := arr_of_cells hg h0
        exact ⟨some a, len, cap, _, hcs, hl, hc, h1, fun i hi => ⟨h2 i hi, hrd i hi⟩⟩
    · rename_i fs ht
      split
      · rename_i hc
        obtain ⟨xs, m, _, _, hl, hxl, hall⟩ := DataW.trod_struct ht h
        have key : ∀ (l : List Field) (o : Nat) (cs' : List Value), consec P (P.cellsOf t) o l = true → cs' = cs.drop o → (∀ f ∈ l, ∃ y, DataW.trod enc P w base spare held m f.type ((cs.drop f.offset).take (P.cellsOf f.type)) = some y) →
            RD (start w).c (l.foldr (fun f r => .fld (P.cellsOf f.type) (shOf P n f.type) r) .fin) cs' := by
          intro l
          induction l with
          | nil =>
            intro o cs' hc he _
            simp only [consec, beq_iff_eq] at hc
            subst hc
            rw [he, List.drop_eq_nil_of_le (by omega)]
            rfl
          | cons f r ih =>
            intro o cs' hc he hf
            simp only [consec, Bool.and_eq_true, beq_iff_eq] at hc
            obtain ⟨y, hy⟩ := hf f (by simp)
            subst he
            rw [hc.1] at hy
            have hle : ∀ (l : List Field) (o : Nat), consec P (P.cellsOf t) o l = true → o ≤ P.cellsOf t := by
              intro l
              induction l with
              | nil => intro o h; simp only [consec, beq_iff_eq] at h; omega
              | cons f r ih => intro o h; simp only [consec, Bool.and_eq_true] at h; have := ih _ h.2; omega
            have h2 := hle r _ hc.2
            refine ⟨(cs.drop o).take (P.cellsOf f.type), (cs.drop o).drop (P.cellsOf f.type), (List.take_append_drop _ _).symm, by simp; omega, rd_of_trod n _ _ _ _ hy, ?_⟩
            exact ih (o + P.cellsOf f.type) _ hc.2 (by rw [List.drop_drop]) (fun f' hf' => hf f' (by simp [hf']))
        refine key fs.toList 0 cs hc (by simp) ?_
        intro f hf
        obtain ⟨i, hi, rfl⟩ := List.getElem_of_mem hf
        have hi' : i < fs.size := by simpa using hi
        have := hall i fs[i] (by simp [hi'])
        exact ⟨xs[i]'(by omega), by simpa [hi', hxl] using this⟩
      · trivial
    · rename_i m0 e ht
      split
      · rename_i hc
        obtain ⟨hc, _⟩ := hc
        obtain ⟨xs, m, _, _, hl, hxl, hall⟩ := DataW.trod_array ht h
        have key : ∀ (k i : Nat) (cs' : List Value), i + k = m0 → cs' = cs.drop (i * P.cellsOf e) →
            RD (start w).c ((List.replicate k e).foldr (fun e r => .fld (P.cellsOf e) (shOf P n e) r) .fin) cs' := by
          intro k
          induction k with
          | zero =>
            intro i cs' hi he
            obtain rfl : i = m0 := by omega
            show cs' = []
            rw [he, List.drop_eq_nil_of_le (by omega)]
          | succ k ih =>
            intro i cs' hi he
            subst he
            have h1 := hall i (by omega)
            rw [List.getElem?_eq_getElem (by omega)] at h1
            have h2 : i * P.cellsOf e + P.cellsOf e ≤ cs.length := by
              rw [hl, ← hc]
              have : (i + 1) * P.cellsOf e ≤ m0 * P.cellsOf e := Nat.mul_le_mul_right _ (by omega)
              rw [Nat.succ_mul] at this
              exact this
            refine ⟨(cs.drop (i * P.cellsOf e)).take (P.cellsOf e), (cs.drop (i * P.cellsOf e)).drop (P.cellsOf e), (List.take_append_drop _ _).symm, by rw [List.length_take, List.length_drop]; omega, rd_of_trod n _ _ _ _ h1, ?_⟩
            exact ih (i + 1) _ (by omega) (by rw [List.drop_drop, Nat.succ_mul])
        exact key m0 0 cs (by omega) (by simp)
      · trivial
    · trivial
theorem ov_of {r : Reach} {b0 : Nat} {t : TypeId} {v : Value} {d : DataW H} {ps : List MemPlace} (n : Nat) (hval : Value.okWide P w r b0 t v) (h : DataW.Trod enc P w base spare held t v d ps) : OV (start w).c (shOf P n t) v := by
  obtain ⟨fuel, hf⟩ := h
  have h1 := rd_of_trod n t fuel _ _ hf
  cases n with
  | zero => trivial
  | succ n =>
    unfold shOf at h1 ⊢
    split at h1
    · rename_i ht; obtain ⟨b, rfl⟩ := okWide_bool ht hval; exact h1
    · rename_i k ht; obtain ⟨b, rfl⟩ := okWide_int ht hval; exact h1
    · rename_i ht; obtain ⟨b, rfl⟩ := okWide_string ht hval; exact h1
    · rename_i e ht; obtain ⟨a, b, c, rfl⟩ := okWide_slice ht hval; split at h1
      · rename_i hc; rw [if_pos hc]; exact h1
      · rename_i hc; rw [if_neg hc]; trivial
    · rename_i fs ht
      obtain ⟨cs, rfl, _⟩ := okWide_struct ht hval
      split at h1
      · rename_i hc
        rw [if_pos hc]
        have e : (Value.agg cs).cells.toList = cs.toList := rfl
        rw [e] at h1
        cases hfs : fs.toList with
        | nil => rw [hfs] at h1; exact ⟨cs.toList, by simp, h1⟩
        | cons f r => rw [hfs] at h1; exact ⟨cs.toList, by simp, h1⟩
      · rename_i hc; rw [if_neg hc]; trivial
    · rename_i m0 e ht
      have hval' := hval
      simp only [Value.okWide, ht] at hval'
      obtain ⟨cs, rfl, _⟩ := hval'
      split at h1
      · rename_i hc
        rw [if_pos hc]
        have e' : (Value.agg cs).cells.toList = cs.toList := rfl
        rw [e'] at h1
        cases m0 with
        | zero => exact ⟨cs.toList, by simp, h1⟩
        | succ m0 => exact ⟨cs.toList, by simp, h1⟩
      · rename_i hc; rw [if_neg hc]; trivial
    · trivial
end
/-! ### From a reading to data -/
class OfSh (α : Type) [Rp α] (s : Sh) : Prop where
  of : ∀ {c cs}, RD c s cs → ∃ a : α, rp c a cs
theorem wf_i64 {n : Int} (h : (Lit.int .i64 n).wf = true) : inI64 n := by
  simp [Lit.wf, IntKind.min, IntKind.max, IntKind.signed, IntKind.bits] at h
  unfold inI64; omega
theorem wf_u8 {n : Int} (h : (Lit.int .u8 n).wf = true) : 0 ≤ n ∧ n ≤ 255 := by
  simp [Lit.wf, IntKind.min, IntKind.max, IntKind.signed, IntKind.bits] at h
  omega
instance : OfSh Int (.int .i64) := ⟨fun ⟨n, h, hw⟩ => ⟨n, h, wf_i64 hw⟩⟩
instance : OfSh UInt8 (.int .u8) := ⟨fun ⟨n, h, hw⟩ => ⟨UInt8.ofNat n.toNat, by
  have := wf_u8 hw
  show _ = [Value.int .u8 (UInt8.ofNat n.toNat).toNat]
  have e : (((UInt8.ofNat n.toNat).toNat : Nat) : Int) = n := by simp; omega
  rw [h, e]⟩⟩
instance : OfSh Bool .bool := ⟨fun ⟨b, h⟩ => ⟨b, h⟩⟩
instance : OfSh Str .str := ⟨fun ⟨l, h, hl⟩ => ⟨l, h, hl⟩⟩
instance ofLast {α : Type} [Rp α] {n : Nat} {s : Sh} [h : OfSh α s] : OfSh α (.fld n s .fin) := ⟨fun ⟨x, y, h1, _, h3, h4⟩ => by
  have h4 : y = [] := h4
  subst h4
  rw [h1, List.append_nil]
  exact h.of h3⟩
instance ofPair {α β : Type} [Rp α] [Rp β] {n : Nat} {s r : Sh} [h : OfSh α s] [k : OfSh β r] : OfSh (α × β) (.fld n s r) := ⟨fun ⟨x, y, h1, _, h3, h4⟩ => by
  obtain ⟨a, ha⟩ := h.of h3
  obtain ⟨b, hb⟩ := k.of h4
  exact ⟨(a, b), x, y, h1, ha, hb⟩⟩
class SzIs (α : Type) [Rp α] (m : outParam Nat) : Prop where
  h : sz α = m
instance : SzIs Int 1 := ⟨rfl⟩
instance : SzIs UInt8 1 := ⟨rfl⟩
instance : SzIs Bool 1 := ⟨rfl⟩
instance : SzIs Str 1 := ⟨rfl⟩
instance {α : Type} [Rp α] : SzIs (List α) 1 := ⟨rfl⟩
instance {α β : Type} [Rp α] [Rp β] {m n : Nat} [h : SzIs α m] [k : SzIs β n] : SzIs (α × β) (m + n) := ⟨by show sz α + sz β = _; rw [h.h, k.h]⟩
theorem list_of {α : Type} {n : Nat} {p : Nat → α → Prop} (h : ∀ i, i < n → ∃ a, p i a) : ∃ l : List α, l.length = n ∧ ∀ i (hi : i < l.length), p i l[i] := by
  induction n with
  | zero => exact ⟨[], rfl, fun i hi => by simp at hi⟩
  | succ n ih =>
    obtain ⟨l, hl, hp⟩ := ih (fun i hi => h i (by omega))
    obtain ⟨a, ha⟩ := h n (by omega)
    refine ⟨l ++ [a], by simp [hl], fun i hi => ?_⟩
    by_cases e : i < l.length
    · rw [List.getElem_append_left e]; exact hp i e
    · simp at hi
      have : i = n := by omega
      subst this
      rw [List.getElem_append_right (by omega)]
      simpa [hl] using ha
instance ofSlice {α : Type} [Rp α] {e : Sh} {m : Nat} [h : OfSh α e] [hm : SzIs α m] : OfSh (List α) (.slice e m) := ⟨fun ⟨a, n, cap, f, h1, h2, h3, h4, h5⟩ => by
  obtain ⟨l, hl, hp⟩ := list_of (n := n) (p := fun i x => rp _ x (f i)) (fun i hi => h.of (h5 i hi).2)
  refine ⟨l, _, h1, a, cap, by rw [hl], by omega, h3, ?_⟩
  rcases h4 with h4 | ⟨b, o, h6, h7⟩
  · exact .inl (List.eq_nil_of_length_eq_zero (by omega))
  · exact .inr ⟨b, o, h6, fun i hi => ⟨f i, hp i hi, fun j v hv => by rw [hm.h]; exact h7 i (by omega) j v hv⟩⟩⟩
theorem arg_list {α : Type} [Rp α] {c : Ce} {v : Value} {e : Sh} {m : Nat} [OfSh α e] [SzIs α m] (h : OV c (.slice e m) v) : ∃ l : List α, RepL c v l := by
  obtain ⟨l, u, h1, h2⟩ := OfSh.of (α := List α) (s := .slice e m) h
  injection h1 with h1
  subst h1
  exact ⟨l, h2⟩
theorem arg_agg {α : Type} [Rp α] {c : Ce} {v : Value} {n : Nat} {s r : Sh} [OfSh α (.fld n s r)] (h : OV c (.fld n s r) v) : ∃ (a : α) (cs : List Value), v = .agg cs.toArray ∧ rp c a cs := by
  obtain ⟨cs, h1, h2⟩ := h
  obtain ⟨a, ha⟩ := OfSh.of (α := α) (s := .fld n s r) h2
  exact ⟨a, cs, h1, ha⟩
theorem arg_int {c : Ce} {v : Value} (h : OV c (.int .i64) v) : ∃ n, v = .int .i64 n ∧ inI64 n := by
  obtain ⟨n, h1, h2⟩ := h
  injection h1 with h1
  exact ⟨n, h1, wf_i64 h2⟩
theorem arg_bool {c : Ce} {v : Value} (h : OV c .bool v) : ∃ b, v = .bool b := by
  obtain ⟨b, h1⟩ := h
  injection h1 with h1
  exact ⟨b, h1⟩
theorem arg_str {c : Ce} {v : Value} (h : OV c .str v) : ∃ l, v = .string (bs l) ∧ l.length ≤ maxLen := by
  obtain ⟨l, h1, h2⟩ := h
  injection h1 with h1
  exact ⟨l, h1, h2⟩
end Go.Proofs.YtmgdkoidgoihfaaGreatDoor.E
