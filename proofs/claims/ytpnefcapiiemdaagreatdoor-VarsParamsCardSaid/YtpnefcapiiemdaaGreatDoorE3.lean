/- A calculus of the model's code over slots as a function: resolved instructions, what each asks, and that this is sound. Conditions: none. -/
import Derived.WalkKit
import Derived.WalkLawsBesides
import Derived.WalkSpells
import Derived.RangeFuncRecord
import Derived.RangeFuncCalls
import Derived.OrdersIn
import Derived.TacticsIn
namespace Go.Proofs.YtpnefcapiiemdaaGreatDoor.E
open Go.RowKit

abbrev Env := Nat → Value
def emp : Env := fun _ => undef
def up (ρ : Env) (t : Nat) (v : Value) : Env := fun i => if i = t then v else ρ i
theorem up_at (ρ : Env) (t i : Nat) (v : Value) : up ρ t v i = if i = t then v else ρ i := rfl
def upd (ρ : Env) : Option Nat → Value → Env
  | some d, v => up ρ d v
  | none, _ => ρ
theorem upd_some (ρ : Env) (d : Nat) (v : Value) : upd ρ (some d) v = up ρ d v := rfl
theorem upd_none (ρ : Env) (v : Value) : upd ρ none v = ρ := rfl

/-- What is put off till the function's end, and the marks of ranges over functions: as a value, in the slot behind the last. -/
def dfr1 : Value → Deferred
  | .func fn first cap => { target := .fn fn cap, args := first }
  | .int _ n => { target := .collected n.toNat, args := #[] }
  | _ => { target := .nil, args := #[] }
def dfrs : Value → List Deferred
  | .tuple vs => vs.toList.map dfr1
  | _ => []
def act (N : Nat) (ρ : Env) : Act := { tmps := (Array.range N).map ρ, defers := dfrs (ρ N) }
theorem act_put (N : Nat) (ρ : Env) (d : Option Nat) (v : Value) (hd : d ≠ some N) : (act N ρ).put d v = act N (upd ρ d v) := by
  cases d with
  | none => rfl
  | some d =>
    have hn : ¬ N = d := fun e => hd (by rw [e])
    simp only [Act.put, act, upd]
    rw [show up ρ d v N = ρ N from by simp [up, hn]]
    congr 1
    apply Array.ext_getElem?
    intro i
    rw [Array.getElem?_setIfInBounds]
    simp only [Array.getElem?_map, Array.getElem?_range, Array.size_map, Array.size_range]
    by_cases h : d = i
    · subst h
      by_cases hd : d < N <;> simp [hd, up]
    · rw [if_neg h]
      by_cases hd : i < N <;> simp [hd, up, Ne.symm h]

theorem act_get (N : Nat) (ρ : Env) (t : Nat) (h : t < N) : (act N ρ).tmps.getD t undef = ρ t := by
  simp [act, h]

inductive Arg where
  | t (n : Nat)
  | v (x : Value)
def Arg.ev (ρ : Env) : Arg → Value
  | .t n => ρ n
  | .v x => x
theorem ev_t (ρ : Env) (n : Nat) : (Arg.t n).ev ρ = ρ n := rfl
theorem ev_v (ρ : Env) (x : Value) : (Arg.v x).ev ρ = x := rfl

def trA (N : Nat) : Operand → Option Arg
  | .tmp t => if t < N then some (.t t) else none
  | .const x => some (.v x)
  | .global g => some (.v (.pointer (some ⟨g, 0, none⟩)))
  | .func f => some (.v (.func (.func f) #[] #[]))
theorem trA_ev {N : Nat} {ρ : Env} {x : Operand} {a : Arg} (h : trA N x = some a) : (act N ρ).eval x = a.ev ρ := by
  cases x with
  | tmp t =>
    simp only [trA] at h
    split at h
    · rename_i ht
      injection h with h; subst h
      simp only [Act.eval, Arg.ev]
      exact act_get N ρ t ht
    · cases h
  | const v => injection h with h; subst h; rfl
  | global g => injection h with h; subst h; rfl
  | func f => injection h with h; subst h; rfl

/-! ### The heap, block by block -/
def blk (w : World) (g : Nat) : Option (List Value) :=
  match w.heap[g]? with
  | some (.cells c _ (0, 0)) => some c.toList
  | _ => none
def tyOf (w : World) (g : Nat) : TypeId := match w.heap[g]? with | some (.cells _ t _) => t | _ => 0
def put (w : World) (g : Nat) (l : List Value) : World := { w with heap := w.heap.setIfInBounds g (.cells l.toArray (tyOf w g) (0, 0)) }
def size (w : World) : Nat := w.heap.size
def new (w : World) (l : List Value) (t : TypeId) : World := w.alloc (.cells l.toArray t)

section
variable {w : World} {g h : Nat} {l l' : List Value}
theorem blk_some (hb : blk w g = some l) : ∃ t, w.heap[g]? = some (.cells l.toArray t (0, 0)) := by
  unfold blk at hb
  split at hb
  · rename_i c t heq
    injection hb with hb; subst hb
    exact ⟨t, by simpa using heq⟩
  · cases hb
theorem blk_of {t : TypeId} (hb : w.heap[g]? = some (.cells l.toArray t (0, 0))) : blk w g = some l := by
  simp [blk, hb]
theorem blk_lt (hb : blk w g = some l) : g < size w := by
  obtain ⟨t, ht⟩ := blk_some hb
  exact (Array.getElem?_eq_some_iff.1 ht).1
theorem size_put (w : World) (g : Nat) (l : List Value) : size (put w g l) = size w := by simp [size, put]
theorem size_new (w : World) (l : List Value) (t : TypeId) : size (new w l t) = size w + 1 := by simp [size, new]
theorem put_row (hb : blk w g = some l) (l' : List Value) : w.setRow g l'.toArray = put w g l' := by
  obtain ⟨t, ht⟩ := blk_some hb
  have hlt := blk_lt hb
  unfold World.setRow put
  congr 1
  apply Array.ext_getElem?
  intro i
  rw [Array.getElem?_setIfInBounds, Array.getElem?_modify]
  by_cases h : g = i
  · subst h
    have hh : g < w.heap.size := hlt
    simp only [tyOf, ht, if_true, if_pos hh, Option.map_some]
  · rw [if_neg h, if_neg h]
theorem blk_put (hg : g < size w) (l' : List Value) : blk (put w g l') g = some l' := by
  have : (put w g l').heap[g]? = some (.cells l'.toArray (tyOf w g) (0, 0)) := by
    simp only [put, Array.getElem?_setIfInBounds, if_true]
    exact if_pos hg
  exact blk_of this
theorem heap_put_ne (hn : h ≠ g) (l' : List Value) : (put w g l').heap[h]? = w.heap[h]? := by
  simp only [put, Array.getElem?_setIfInBounds]
  rw [if_neg (Ne.symm hn)]
theorem blk_put_ne (hn : h ≠ g) (l' : List Value) : blk (put w g l') h = blk w h := by
  simp only [blk, heap_put_ne hn]
theorem cel (hb : blk w g = some l) (o : Nat) : w.cell? ⟨g, o, none⟩ = l[o]? := by
  obtain ⟨t, ht⟩ := blk_some hb
  rw [cell_of_row w g o _ t (0, 0) ht]; simp
theorem fro (hb : blk w g = some l) (o : Nat) (sp : Option Nat) : w.frozen? ⟨g, o, sp⟩ = false := by
  obtain ⟨t, ht⟩ := blk_some hb
  simp [World.frozen?, ht]
theorem cel_put (hg : g < size w) (l' : List Value) (o : Nat) : (put w g l').cell? ⟨g, o, none⟩ = l'[o]? := cel (blk_put hg l') o
theorem cel_put_ne (hn : h ≠ g) (l' : List Value) (o : Nat) : (put w g l').cell? ⟨h, o, none⟩ = w.cell? ⟨h, o, none⟩ := by
  simp only [World.cell?, heap_put_ne hn]
theorem cel_new (w : World) (l : List Value) (t : TypeId) (o : Nat) : (new w l t).cell? ⟨size w, o, none⟩ = l[o]? :=
  cel (blk_of (t := t) (heap_alloc_new w _)) o
theorem cel_new_ne (hn : h ≠ size w) (t : TypeId) (o : Nat) : (new w l t).cell? ⟨h, o, none⟩ = w.cell? ⟨h, o, none⟩ := by
  have : (new w l t).heap[h]? = w.heap[h]? := by
    show (w.heap.push _)[h]? = _
    rw [Array.getElem?_push]; exact if_neg hn
  simp only [World.cell?, this]
theorem blk_new (w : World) (l : List Value) (t : TypeId) : blk (new w l t) (size w) = some l :=
  blk_of (t := t) (heap_alloc_new w _)
theorem blk_new_ne (hn : h ≠ size w) (t : TypeId) : blk (new w l t) h = blk w h := by
  have : (new w l t).heap[h]? = w.heap[h]? := by
    show (w.heap.push _)[h]? = _
    rw [Array.getElem?_push]; exact if_neg hn
  simp only [blk, this]
end

/-- A pure value, or nothing: what comes behind it. -/
def seqO {α : Type} (o : Option α) (k : α → Prop) : Prop := match o with | some v => k v | none => False
theorem seqO_some {α : Type} (v : α) (k : α → Prop) : seqO (some v) k = k v := rfl
@[congr] theorem seqO_congr {α : Type} {o o' : Option α} {k : α → Prop} (h : o = o') : seqO o k = seqO o' k := by rw [h]
theorem seqO_mono {α : Type} {o : Option α} {k k' : α → Prop} (h : ∀ v, k v → k' v) (hh : seqO o k) : seqO o k' := by
  cases o with
  | none => exact hh
  | some v => exact h v hh
theorem seqO_ex {α : Type} {o : Option α} {k : α → Prop} (h : seqO o k) : ∃ v, o = some v ∧ k v := by
  cases o with
  | none => exact h.elim
  | some v => exact ⟨v, rfl, h⟩

/-! ### Values -/
/-- A string of these bytes. -/
def bs (l : List UInt8) : ByteArray := ⟨l.toArray⟩
theorem bs_size (l : List UInt8) : (bs l).size = l.length := by simp [bs, ByteArray.size]
theorem bs_data (l : List UInt8) : (bs l).data = l.toArray := rfl
theorem bs_append (a b : List UInt8) : bs a ++ bs b = bs (a ++ b) := by
  apply ByteArray.ext; simp [bs]
theorem bs_toList (l : List UInt8) : (bs l).toList = l := by
  rw [ByteArray.toList_eq]
  simp [bs]
theorem bs_of (s : ByteArray) : s = bs s.data.toList := by simp [bs]
theorem bs_inj {a b : List UInt8} (h : bs a = bs b) : a = b := by
  have := congrArg (fun x => x.data.toList) h
  simpa [bs] using this
theorem bs_extract (l : List UInt8) (a b : Nat) : (bs l).extract a b = bs ((l.drop a).take (b - a)) := by
  apply ByteArray.ext
  simp [bs, ByteArray.data_extract, List.extract_eq_take_drop]
end Go.Proofs.YtpnefcapiiemdaaGreatDoor.E

/- Resolved instructions: what each asks of the slots and the world, and that the model's operation does just that. Conditions: none. -/
namespace Go.Proofs.YtpnefcapiiemdaaGreatDoor.E
open Go.RowKit

/-! ### Pure values -/
def intV (op : BinOp) (k : IntKind) (a b : Int) : Option Value :=
  match op with
  | .add => some (.int k (k.wrap (a + b)))
  | .sub => some (.int k (k.wrap (a - b)))
  | .mul => some (.int k (k.wrap (a * b)))
  | .quo => if b = 0 then none else some (.int k (k.wrap (a.tdiv b)))
  | .rem => if b = 0 then none else some (.int k (a.tmod b))
  | .and => some (.int k (k.wrap (BitVec.ofInt k.bits a &&& BitVec.ofInt k.bits b).toNat))
  | .or => some (.int k (k.wrap (BitVec.ofInt k.bits a ||| BitVec.ofInt k.bits b).toNat))
  | .xor => some (.int k (k.wrap (BitVec.ofInt k.bits a ^^^ BitVec.ofInt k.bits b).toNat))
  | .andNot => some (.int k (k.wrap (BitVec.ofInt k.bits a &&& ~~~BitVec.ofInt k.bits b).toNat))
  | .eql => some (.bool (decide (a = b)))
  | .neq => some (.bool (decide (a ≠ b)))
  | .lss => some (.bool (decide (a < b)))
  | .leq => some (.bool (decide (a ≤ b)))
  | .gtr => some (.bool (decide (b < a)))
  | .geq => some (.bool (decide (b ≤ a)))
  | _ => none
def strV (op : BinOp) (a b : List UInt8) : Option Value :=
  match op with
  | .add => if a.length + b.length ≤ 9223372036854775807 then some (.string (bs (a ++ b))) else none
  | .eql => some (.bool (decide (a = b)))
  | .neq => some (.bool (decide (a ≠ b)))
  | .lss => some (.bool (Op.bytesLess a b))
  | .leq => some (.bool (Op.bytesLess a b || decide (a = b)))
  | .gtr => some (.bool (!(Op.bytesLess a b || decide (a = b))))
  | .geq => some (.bool (!Op.bytesLess a b))
  | _ => none
def shV (op : BinOp) (k : IntKind) (a b : Int) : Option Value :=
  if b < 0 then none else
  match op with
  | .shl => some (.int k (k.wrap (a * 2 ^ min b.toNat k.bits)))
  | .shr => some (.int k (a.fdiv (2 ^ min b.toNat k.bits)))
  | _ => none
def binV (op : BinOp) : Value → Value → Option Value
  | .int k a, .int k' b => if k = k' then intV op k a b else none
  | .string a, .string b => strV op a.data.toList b.data.toList
  | _, _ => none
def sftV (op : BinOp) : Value → Value → Option Value
  | .int k a, .int _ b => shV op k a b
  | _, _ => none
/-- x == y where y may be nil: of pointers, slices, maps, functions, interface values; of two pointers that are not nil: none. -/
def eqV : Nat → Value → Value → Option Bool
  | 0, .pointer none, .pointer b => some b.isNone
  | 0, .pointer (some _), .pointer none => some false
  | 1, .slice none _ _, .slice b _ _ => some b.isNone
  | 1, .slice (some _) _ _, .slice none _ _ => some false
  | 2, .map none, .map b => some b.isNone
  | 2, .map (some _), .map none => some false
  | 3, .nilFunc, .nilFunc => some true
  | 3, .nilFunc, .func _ _ _ => some false
  | 3, .func _ _ _, .nilFunc => some false
  | 4, .bool a, .bool b => some (a == b)
  | _, _, _ => none
/-- x == y of interface values, one of them the literal nil. -/
def eqI : Value → Value → Option Bool
  | .nilIface, .nilIface => some true
  | .nilIface, .iface _ _ => some false
  | .iface _ _, .nilIface => some false
  | _, _ => none
def unV (op : UnOp) (x : Value) : Option Value :=
  match op, x with
  | .neg, .int k n => some (.int k (k.wrap (0 - n)))
  | .xor, .int k n => some (.int k (k.wrap (BitVec.ofInt k.bits (if k.signed then -1 else k.max) ^^^ BitVec.ofInt k.bits n).toNat))
  | .not, .bool b => some (.bool !b)
  | _, _ => none
def asB : Value → Option Bool
  | .bool b => some b
  | _ => none
def nckV : Value → Option Value
  | .pointer (some a) => some (.pointer (some a))
  | .func (.func f) a b => some (.func (.func f) a b)
  | .iface t v => some (.iface t v)
  | _ => none
def fldV (off : Nat) : Value → Option Value
  | .pointer (some a) => some (.pointer (some (a.add off)))
  | _ => none
def get1V (off : Nat) : Value → Option Value
  | .agg cs => cs.toList[off]?
  | _ => none
def getNV (off n : Nat) : Value → Option Value
  | .agg cs => some (.agg ((cs.toList.drop off).take n).toArray)
  | _ => none
def idxV (sz : Nat) : Value → Value → Option Value
  | .slice (some a) n _, .int _ i => if 0 ≤ i ∧ i < n then some (.pointer (some (a.add (i.toNat * sz)))) else none
  | _, _ => none
def idxAV (len sz : Nat) : Value → Value → Option Value
  | .pointer (some a), .int _ i => if 0 ≤ i ∧ i < len then some (.pointer (some (a.add (i.toNat * sz)))) else none
  | _, _ => none
def strAt (l : List UInt8) (i : Int) : Option Value := if 0 ≤ i then (l[i.toNat]?).map fun b => .int .u8 b.toNat else none
def ixSV : Value → Value → Option Value
  | .string s, .int _ i => strAt s.data.toList i
  | _, _ => none
def bndV (d : Nat) : Option Value → Option Int
  | none => some (d : Int)
  | some (.int _ i) => some i
  | _ => none
def subV (l : List UInt8) (lo hi : Int) : Option Value :=
  if 0 ≤ lo ∧ lo ≤ hi ∧ hi ≤ l.length then some (.string (bs ((l.drop lo.toNat).take (hi.toNat - lo.toNat)))) else none
def subSV : Value → Option Value → Option Value → Option Value
  | .string s, lo, hi => (bndV 0 lo).bind fun a => (bndV s.size hi).bind fun b => subV s.data.toList a b
  | _, _, _ => none
def cutV (sz : Nat) (a : Option Addr) (c : Nat) (lo hi : Int) : Option Value :=
  if 0 ≤ lo ∧ lo ≤ hi ∧ hi ≤ c then some (.slice (if c = lo.toNat then a else a.map (·.add (lo.toNat * sz))) (hi.toNat - lo.toNat) (c - lo.toNat)) else none
def subLV (sz : Nat) : Value → Option Value → Option Value → Option Value
  | .slice a n c, lo, hi => (bndV 0 lo).bind fun x => (bndV n hi).bind fun y => cutV sz a c x y
  | _, _, _ => none
def subAV (len sz : Nat) : Value → Option Value → Option Value → Option Value
  | .pointer (some a), lo, hi => (bndV 0 lo).bind fun x => (bndV len hi).bind fun y => cutV sz (some a) len x y
  | _, _, _ => none
def cviV (k : IntKind) : Value → Option Value
  | .int _ n => some (.int k (k.wrap n))
  | _ => none
def cssV : Value → Option Value
  | .string s => some (.string s)
  | _ => none
def extV (i : Nat) : Value → Option Value
  | .tuple vs => vs.toList[i]?
  | _ => none
def lenV : Bool → Value → Option Value
  | true, .string s => some (.int .i64 s.size)
  | false, .slice _ n _ => some (.int .i64 n)
  | _, _ => none
def min2V : Value → Value → Option Value
  | .int k x, .int _ y => some (.int k (if y < x then y else x))
  | _, _ => none
def max2V : Value → Value → Option Value
  | .int k x, .int _ y => some (.int k (if x < y then y else x))
  | _, _ => none
def cellsV : Value → List Value
  | .agg cs => cs.toList
  | v => [v]
def okCell : Value → Bool
  | .agg _ | .tuple _ => false
  | _ => true
/-- Parts laid into cells. -/
def lay : List Value → List (Nat × Nat × Value) → Option (List Value)
  | l, [] => some l
  | l, (off, n, v) :: r => if (cellsV v).length = n ∧ off + n ≤ l.length then lay (l.take off ++ cellsV v ++ l.drop (off + n)) r else none
end Go.Proofs.YtpnefcapiiemdaaGreatDoor.E

/- Resolved instructions, their translation out of the model's operations, what each asks, and that this is sound. Conditions: none. -/
namespace Go.Proofs.YtpnefcapiiemdaaGreatDoor.E
open Go.RowKit

/-- Operations that are taken as the model has them. -/
inductive LK where
  | lk (t : TypeId) (ok : Bool) | mup (t : TypeId) | mkm (t : TypeId) | rng (t : TypeId) | nxt (s : Bool) (ty : TypeId)
  | blt (b : Builtin) (ts : List TypeId) (ty : TypeId)
  | ent | mki (t : TypeId) | tas (t u : TypeId) (ok : Bool) | men (t : TypeId) | est (t : TypeId)
  | cv (s d : TypeId) | bop (op : BinOp) (t : TypeId) (x y : Operand) | ext (f : FuncId) | dfr
/-- A mark, or a call that is put off, laid ahead of the others. -/
def consM (m v : Value) : Value := match v with | .tuple vs => .tuple (m :: vs.toList).toArray | _ => .tuple [m].toArray
def bltSem (b : Builtin) (ts : List TypeId) (ty : TypeId) (vs : List Value) : Sem Value :=
  match b with
  | .len => Builtin.len_ ts.toArray ty vs.toArray
  | .cap => Builtin.cap_ ts.toArray ty vs.toArray
  | .delete => Builtin.delete_ ts.toArray ty vs.toArray
  | .clear => Builtin.clear_ ts.toArray ty vs.toArray
  | .unsafeString => Builtin.unsafeString_ ts.toArray ty vs.toArray
  | .unsafeSliceData => Builtin.unsafeSliceData_ ts.toArray ty vs.toArray
  | .unsafeStringData => Builtin.unsafeStringData_ ts.toArray ty vs.toArray
  | .min => Builtin.min_ ts.toArray ty vs.toArray
  | .max => Builtin.max_ ts.toArray ty vs.toArray
  | _ => stuck ""
def lkSem : LK → List Value → Sem Value
  | .lk t ok, [x, i] => Instr.lookup t x i ok
  | .mup t, [m, k, v] => do Instr.mapUpdate t m k v; pure undef
  | .mkm t, [r] => Instr.makeMap t (some r)
  | .rng t, [x] => Instr.range t x
  | .nxt s ty, [x] => Instr.next x s ty
  | .ent, [x] => Instr.entry x
  | .mki t, [x] => Instr.makeInterface t x
  | .tas t u ok, [x] => Instr.typeAssert x t u ok
  | .men t, [m, k] => Instr.mapEntry t m k
  | .est t, [m, k, v] => do Instr.entryStore t m k v; pure undef
  | .blt b ts ty, vs => bltSem b ts ty vs
  | .cv s d, [x] => convert s d x
  | .bop op t x y, [a, b] => do eqGuard op t x y a b; binOp op t a b
  | .ext f, vs => do
    match ← callFunc f vs.toArray with
    | .value v => pure v
    | _ => stuck ""
  | .dfr, [.func (.func f) a b, m] => pure (consM (.func (.func f) a b) m)
  | _, _ => stuck ""

inductive Ins where
  | mov (x : Arg) | pick (c a b : Arg)
  | bin (op : BinOp) (x y : Arg) | sft (op : BinOp) (x y : Arg)
  | eq (kd : Nat) (neg : Bool) (x y : Arg) | eqi (neg : Bool) (x y : Arg)
  | un (op : UnOp) (x : Arg)
  | load (x : Arg) | loadN (n : Nat) (x : Arg) | store (n : Nat) (x y : Arg)
  | alloc (t : TypeId) (z : List Value) | box (t : TypeId) (x : Arg)
  | build (z : List Value) (ps : List (Nat × Nat × Arg))
  | bsl (e : TypeId) (n : Nat) (z : List Value) (ps : List (Nat × Nat × Arg))
  | nck (x : Arg) | fld (off : Nat) (x : Arg) | get1 (off : Nat) (x : Arg) | getN (off n : Nat) (x : Arg)
  | idx (sz : Nat) (x i : Arg) | idxA (len sz : Nat) (x i : Arg) | ixS (x i : Arg)
  | subS (x : Arg) (lo hi : Option Arg) | subL (sz : Nat) (x : Arg) (lo hi : Option Arg) | subA (len sz : Nat) (x : Arg) (lo hi : Option Arg)
  | cvi (k : IntKind) (x : Arg) | cvBS (x : Arg) | cvSS (x : Arg)
  | mkf (f : Nat) (first cap : List Arg)
  | mks (e : TypeId) (sz bytes : Nat) (z : List Value) (l c : Arg)
  | mkm
  | ext (i : Nat) (x : Arg) | len (s : Bool) (x : Arg)
  | min2 (x y : Arg) | max2 (x y : Arg)
  | call (f : Nat) (args : List Arg) | callv (x : Arg) (args : List Arg)
  | app (t u : TypeId) (x y : Arg)
  | cpy (t u : TypeId) (x y : Arg)
  | chk (x : Arg) (d : Nat) | chkN (n : Nat) (x : Arg) (d : Nat)
  | gen (kd : LK) (xs : List Arg)
  | bad

def A1 (x : Option Arg) (f : Arg → Ins) : Ins := x.elim .bad f
def allA (N : Nat) : List Operand → Option (List Arg)
  | [] => some []
  | x :: r => (trA N x).bind fun a => (allA N r).map (a :: ·)
def optA (N : Nat) : Option Operand → Option (Option Arg)
  | none => some none
  | some x => (trA N x).map some

def isAggB : TypeDesc → Bool | .struct _ | .array _ _ => true | _ => false
def szOf (P : Program) (t : TypeId) : Option Nat := (P.info? t).map (·.size)
def zOf (P : Program) (t : TypeId) : Option (List Value) := (P.info? t).bind fun i => i.zero.map fun z => z.cells.toList
def okFn (P : Program) (f : Nat) : Bool := match P.funcs[f]? with | some fn => fn.body.isSome && !(fn.name == "runtime.NumGoroutine") | none => false

def plA (P : Program) (N : Nat) (place : Nat → Option (Nat × Nat)) : List (Nat × Operand) → Option (List (Nat × Nat × Arg))
  | [] => some []
  | (i, x) :: r => (trA N x).bind fun a => (place i).bind fun p => (plA P N place r).map ((p.1, p.2, a) :: ·)

def trLoad (P : Program) (t : TypeId) (x : Arg) : Ins :=
  match P.underlying t with
  | some d => if isAggB d then (match szOf P t with | some n => .loadN n x | none => .bad) else .load x
  | none => .bad
def trEq (P : Program) (neg : Bool) (t : TypeId) (cst : Bool) (x y : Arg) : Ins :=
  match P.underlying t with
  | some (.pointer _) => .eq 0 neg x y
  | some (.slice _) => .eq 1 neg x y
  | some (.map _ _) => .eq 2 neg x y
  | some (.func _ _ _) => .eq 3 neg x y
  | some .bool => .eq 4 neg x y
  | some (.interface _) => if cst then .eqi neg x y else .bad
  | some (.int _) | some .string => .bin (if neg then .neq else .eql) x y
  | _ => .bad
def isC : Operand → Bool | .const _ => true | _ => false
def fOf (P : Program) (s : TypeId) (f : Nat) : Option Field :=
  match P.underlying s with
  | some (.struct fs) => fs[f]?
  | _ => none
def trBin (P : Program) (op : BinOp) (t : TypeId) (cst : Bool) (x y : Arg) : Ins :=
  match op with
  | .eql => trEq P false t cst x y
  | .neq => trEq P true t cst x y
  | .shl | .shr => .sft op x y
  | _ => .bin op x y
def trBlt (N : Nat) (c : Call) (ty : TypeId) : Ins :=
  match c.callee with
  | .builtin b => (allA N c.args.toList).elim .bad fun as => match b with | .len | .cap | .delete | .clear | .unsafeString | .unsafeSliceData | .unsafeStringData | .min | .max => .gen (.blt b c.argTypes.toList ty) as | _ => .bad
  | _ => .bad
def trCall (P : Program) (N : Nat) (c : Call) : Ins :=
  match c.callee with
  | .value f => A1 (trA N f) fun fa => (allA N c.args.toList).elim .bad fun as =>
      match f with
      | .func g => if okFn P g then .call g as else .gen (.ext g) as
      | _ => .callv fa as
  | .builtin .len =>
    match c.args.toList, c.argTypes.toList with
    | [x], [t] => A1 (trA N x) fun a => match P.underlying t with | some .string => .len true a | some (.slice _) => .len false a | _ => .bad
    | _, _ => .bad
  | .builtin .min => match c.args.toList with | [x, y] => A1 (trA N x) fun a => A1 (trA N y) fun b => .min2 a b | _ => .bad
  | .builtin .max => match c.args.toList with | [x, y] => A1 (trA N x) fun a => A1 (trA N y) fun b => .max2 a b | _ => .bad
  | .builtin .append => match c.args.toList, c.argTypes.toList with | [x, y], [t, u] => A1 (trA N x) fun a => A1 (trA N y) fun b => .app t u a b | _, _ => .bad
  | .builtin .copy => match c.args.toList, c.argTypes.toList with | [x, y], [t, u] => A1 (trA N x) fun a => A1 (trA N y) fun b => .cpy t u a b | _, _ => .bad
  | _ => .bad
def trSlice (P : Program) (t : TypeId) (x : Arg) (lo hi : Option Arg) : Ins :=
  match P.underlying t with
  | some .string => .subS x lo hi
  | some (.slice e) => (match szOf P e with | some n => .subL n x lo hi | none => .bad)
  | some (.array len e) => (match szOf P e with | some n => .subA len n x lo hi | none => .bad)
  | _ => .bad
def trConv (P : Program) (s d : TypeId) (x : Arg) : Ins :=
  match P.underlying s, P.underlying d with
  | some (.int _), some (.int k) => .cvi k x
  | some .string, some .string => .cvSS x
  | some (.slice e), some .string => (match P.underlying e with | some (.int .u8) => .cvBS x | _ => .bad)
  | _, _ => .bad
/-- Is it told at once whether two values of a type are the same? -/
def genEq (P : Program) (op : BinOp) (t : TypeId) (cst : Bool) : Bool :=
  match op with
  | .eql | .neq => (match P.underlying t with | some (.pointer _) => !cst | some (.struct _) | some (.array _ _) => true | some (.interface _) => !cst | _ => false)
  | _ => false
def orGen (i g : Ins) : Ins := match i with | .bad => g | i => i
def trI (P : Program) (N : Nat) (o : Oper) : Ins :=
  match o.op with
  | .move x | .assign x => A1 (trA N x) .mov
  | .pick c a b => A1 (trA N c) fun c => A1 (trA N a) fun a => A1 (trA N b) fun b => .pick c a b
  | .alloc t => (zOf P t).elim .bad fun z => .alloc t z
  | .box t x => A1 (trA N x) fun a => .box t a
  | .load t x => A1 (trA N x) fun a => trLoad P t a
  | .store t x y => A1 (trA N x) fun a => A1 (trA N y) fun b => (szOf P t).elim .bad fun n => .store n a b
  | .nilCheck x => A1 (trA N x) .nck
  | .binOp op t x y _ => A1 (trA N x) fun a => A1 (trA N y) fun b => if genEq P op t (isC x || isC y) then .gen (.bop op t x y) [a, b] else trBin P op t (isC x || isC y) a b
  | .unOp op _ x => A1 (trA N x) fun a => .un op a
  | .fieldAddr s x f => A1 (trA N x) fun a => (fOf P s f).elim .bad fun fd => match szOf P fd.type with | some (_ + 1) => .fld fd.offset a | _ => .bad
  | .field s x f => A1 (trA N x) fun a => (fOf P s f).elim .bad fun fd =>
      match P.underlying fd.type with
      | some d => if isAggB d then (match szOf P fd.type with | some n => .getN fd.offset n a | none => .bad) else .get1 fd.offset a
      | none => .bad
  | .indexAddr t x i => A1 (trA N x) fun a => A1 (trA N i) fun b =>
      match P.underlying t with
      | some (.slice e) => (match szOf P e with | some n => .idx n a b | none => .bad)
      | some (.array len e) => (match szOf P e with | some n => .idxA len n a b | none => .bad)
      | _ => .bad
  | .index t x i => A1 (trA N x) fun a => A1 (trA N i) fun b => match P.underlying t with | some .string => .ixS a b | _ => .bad
  | .slice t x lo hi mx => A1 (trA N x) fun a => (optA N lo).elim .bad fun l => (optA N hi).elim .bad fun h => match mx with | none => trSlice P t a l h | some _ => .bad
  | .convert s d x => A1 (trA N x) fun a => orGen (trConv P s d a) (.gen (.cv s d) [a])
  | .makeFunc fn first cap => match fn with | .func f => (allA N first.toList).elim .bad fun a => (allA N cap.toList).elim .bad fun b => .mkf f a b | _ => .bad
  | .makeMap _ none => .mkm
  | .makeSlice t l c => A1 (trA N l) fun a => A1 (trA N c) fun b =>
      match P.underlying t with
      | some (.slice e) => (match P.info? e with | some i => (match i.zero with | some z => .mks e i.size i.bytes z.cells.toList a b | none => .bad) | none => .bad)
      | _ => .bad
  | .build t ps =>
      match P.underlying t with
      | some (.struct fs) => (zOf P t).elim .bad fun z => (plA P N (fun i => fs[i]?.bind fun f => (szOf P f.type).map fun n => (f.offset, n)) ps.toList).elim .bad fun l => if fs.all fun f => (szOf P f.type).isSome then .build z l else .bad
      | some (.array _ e) => (zOf P t).elim .bad fun z => (szOf P e).elim .bad fun n => (plA P N (fun i => some (i * n, n)) ps.toList).elim .bad fun l => .build z l
      | _ => .bad
  | .buildSlice t len ps =>
      match P.underlying t with
      | some (.slice e) => (zOf P e).elim .bad fun z => (szOf P e).elim .bad fun n => (plA P N (fun i => some (i * n, n)) ps.toList).elim .bad fun l => if z.length = n ∧ 0 < n ∧ len * n ≤ 16777216 then .bsl e len ((List.replicate len z).flatten) l else .bad
      | _ => .bad
  | .extract x i => A1 (trA N x) fun a => .ext i a
  | .call c => orGen (trCall P N c) (trBlt N c o.type)
  | .lookup t x i ok => A1 (trA N x) fun a => A1 (trA N i) fun b => .gen (.lk t ok) [a, b]
  | .mapUpdate t m k x => A1 (trA N m) fun a => A1 (trA N k) fun b => A1 (trA N x) fun c => .gen (.mup t) [a, b, c]
  | .insert t m k x => A1 (trA N m) fun a => A1 (trA N k) fun b => A1 (trA N x) fun c => .gen (.mup t) [a, b, c]
  | .makeMap t (some r) => A1 (trA N r) fun a => .gen (.mkm t) [a]
  | .range t x => A1 (trA N x) fun a => .gen (.rng t) [a]
  | .next x s => A1 (trA N x) fun a => .gen (.nxt s o.type) [a]
  | .entry x => A1 (trA N x) fun a => .gen .ent [a]
  | .makeInterface t x => A1 (trA N x) fun a => .gen (.mki t) [a]
  | .typeAssert x t u ok => A1 (trA N x) fun a => .gen (.tas t u ok) [a]
  | .mapEntry t m k => A1 (trA N m) fun a => A1 (trA N k) fun b => .gen (.men t) [a, b]
  | .entryStore t m k v => A1 (trA N m) fun a => A1 (trA N k) fun b => A1 (trA N v) fun c => .gen (.est t) [a, b, c]
  | _ => .bad

/-! ### What each asks -/
def ldV (w : World) : Value → Option Value
  | .pointer (some a) => w.cell? a
  | _ => none
def ldsV (w : World) (a : Addr) : Nat → Nat → Option (List Value)
  | _, 0 => some []
  | i, n + 1 => (w.cell? (a.add i)).bind fun v => (ldsV w a (i + 1) n).map (v :: ·)
def ldNV (w : World) (n : Nat) : Value → Option Value
  | .pointer (some a) => (ldsV w a 0 n).map fun l => .agg l.toArray
  | _ => none
/-- A store of all cells of a value. -/
def stV (w : World) (n : Nat) : Value → Value → Option World
  | .pointer (some a), v =>
    (blk w a.block).bind fun l =>
      if a.spot = none ∧ (cellsV v).length = n ∧ a.off + n ≤ l.length ∧ (cellsV v).all okCell then some (put w a.block (l.take a.off ++ cellsV v ++ l.drop (a.off + n))) else none
  | _, _ => none
def layA (ρ : Env) (ps : List (Nat × Nat × Arg)) : List (Nat × Nat × Value) := ps.map fun p => (p.1, p.2.1, p.2.2.ev ρ)
def argsV (ρ : Env) (l : List Arg) : List Value := l.map (Arg.ev ρ)
/-- A call that hands back a value. -/
def callP (P : Program) (f : Nat) (args : List Value) (w : World) (k : Value → World → Prop) : Prop :=
  Calls P f args.toArray w fun e w' => ∃ v, e = .returned v ∧ k v w'
/-- A call of yield: a round of the loop whose record lies in block l. -/
def yldP (P : Program) (l : Nat) (args : List Value) (w : World) (k : Value → World → Prop) : Prop :=
  ∃ f tmps assign body, (Instr.yield l args.toArray).run P w = .ok (.round l f tmps assign body) w ∧ RoundIn Fence.wide 0 P l f tmps assign body w fun e w' => ∃ v, e = .returned v ∧ k v w'
def callvP (P : Program) (f : Value) (args : List Value) (w : World) (k : Value → World → Prop) : Prop :=
  match f with
  | .func (.func g) first cap => okFn P g = true ∧ callP P g (first.toList ++ args ++ cap.toList) w k
  | .func (.yield l) first cap => first = #[] ∧ cap = #[] ∧ yldP P l args w k
  | _ => False
/-- 'append' of what two values hold. -/
def appP (P : Program) (t u : TypeId) (x y : Value) (w : World) (k : Value → World → Prop) : Prop := ∃ v w', (Builtin.append_ #[t, u] 0 #[x, y]).run P w = .ok v w' ∧ k v w'
def cpyP (P : Program) (t u : TypeId) (x y : Value) (w : World) (k : Value → World → Prop) : Prop := ∃ v w', (Builtin.copy_ #[t, u] 0 #[x, y]).run P w = .ok v w' ∧ k v w'
def genP (P : Program) (kd : LK) (vs : List Value) (w : World) (k : Value → World → Prop) : Prop := ∃ v w', (lkSem kd vs).run P w = .ok v w' ∧ k v w'
/-- 'make' of a slice. -/
def mksP (e : TypeId) (sz bytes : Nat) (z : List Value) (l c : Value) (w : World) (k : Value → World → Prop) : Prop :=
  match l, c with
  | .int _ a, .int _ b => 0 ≤ a ∧ a ≤ b ∧ b ≤ 9223372036854775807 ∧ bytes * b ≤ 281474976710656 ∧ z.length = sz ∧ 0 < sz ∧ k (.slice (some ⟨size w, 0, none⟩) a.toNat b.toNat) (new w ((List.replicate b.toNat z).flatten) e)
  | _, _ => False
def cvBSP (w : World) (x : Value) (k : Value → Prop) : Prop :=
  match x with
  | .slice none _ _ => k (.string (bs []))
  | .slice (some a) n _ => ∃ l : List UInt8, l.length = n ∧ ldsV w a 0 n = some (l.map fun b => .int .u8 b.toNat) ∧ k (.string (bs l))
  | _ => False

def vcI (P : Program) (i : Ins) (ρ : Env) (w : World) (k : Value → World → Prop) : Prop :=
  match i with
  | .mov x => k (x.ev ρ) w
  | .pick c a b => seqO (asB (c.ev ρ)) fun t => k (if t then a.ev ρ else b.ev ρ) w
  | .bin op x y => seqO (binV op (x.ev ρ) (y.ev ρ)) fun v => k v w
  | .sft op x y => seqO (sftV op (x.ev ρ) (y.ev ρ)) fun v => k v w
  | .eq kd neg x y => seqO (eqV kd (x.ev ρ) (y.ev ρ)) fun b => k (.bool (b != neg)) w
  | .eqi neg x y => seqO (eqI (x.ev ρ) (y.ev ρ)) fun b => k (.bool (b != neg)) w
  | .un op x => seqO (unV op (x.ev ρ)) fun v => k v w
  | .load x => seqO (ldV w (x.ev ρ)) fun v => k v w
  | .loadN n x => seqO (ldNV w n (x.ev ρ)) fun v => k v w
  | .store n x y => seqO (stV w n (x.ev ρ) (y.ev ρ)) fun w' => k undef w'
  | .alloc t z => k (.pointer (some ⟨size w, 0, none⟩)) (new w z t)
  | .box t x => k (.pointer (some ⟨size w, 0, none⟩)) (new w (cellsV (x.ev ρ)) t)
  | .build z ps => seqO (lay z (layA ρ ps)) fun l => k (.agg l.toArray) w
  | .bsl e n z ps => seqO (lay z (layA ρ ps)) fun l => k (.slice (some ⟨size w, 0, none⟩) n n) (new w l e)
  | .nck x => seqO (nckV (x.ev ρ)) fun v => k v w
  | .fld off x => seqO (fldV off (x.ev ρ)) fun v => k v w
  | .get1 off x => seqO (get1V off (x.ev ρ)) fun v => k v w
  | .getN off n x => seqO (getNV off n (x.ev ρ)) fun v => k v w
  | .idx sz x i => seqO (idxV sz (x.ev ρ) (i.ev ρ)) fun v => k v w
  | .idxA len sz x i => seqO (idxAV len sz (x.ev ρ) (i.ev ρ)) fun v => k v w
  | .ixS x i => seqO (ixSV (x.ev ρ) (i.ev ρ)) fun v => k v w
  | .subS x lo hi => seqO (subSV (x.ev ρ) (lo.map (Arg.ev ρ)) (hi.map (Arg.ev ρ))) fun v => k v w
  | .subL sz x lo hi => seqO (subLV sz (x.ev ρ) (lo.map (Arg.ev ρ)) (hi.map (Arg.ev ρ))) fun v => k v w
  | .subA len sz x lo hi => seqO (subAV len sz (x.ev ρ) (lo.map (Arg.ev ρ)) (hi.map (Arg.ev ρ))) fun v => k v w
  | .cvi kd x => seqO (cviV kd (x.ev ρ)) fun v => k v w
  | .cvBS x => cvBSP w (x.ev ρ) fun v => k v w
  | .cvSS x => seqO (cssV (x.ev ρ)) fun v => k v w
  | .mkf f a b => k (.func (.func f) (argsV ρ a).toArray (argsV ρ b).toArray) w
  | .mks e sz bytes z l c => mksP e sz bytes z (l.ev ρ) (c.ev ρ) w k
  | .mkm => k (.map (some (size w))) (w.alloc (.map #[] 0))
  | .ext i x => seqO (extV i (x.ev ρ)) fun v => k v w
  | .len s x => seqO (lenV s (x.ev ρ)) fun v => k v w
  | .min2 x y => seqO (min2V (x.ev ρ) (y.ev ρ)) fun v => k v w
  | .max2 x y => seqO (max2V (x.ev ρ) (y.ev ρ)) fun v => k v w
  | .call f as => callP P f (argsV ρ as) w k
  | .callv x as => callvP P (x.ev ρ) (argsV ρ as) w k
  | .app t u x y => appP P t u (x.ev ρ) (y.ev ρ) w k
  | .cpy t u x y => cpyP P t u (x.ev ρ) (y.ev ρ) w k
  | .chk x d => ldV w (x.ev ρ) = some (ρ d) ∧ k undef w
  | .chkN n x d => ldNV w n (x.ev ρ) = some (ρ d) ∧ k undef w
  | .gen kd xs => genP P kd (argsV ρ xs) w k
  | .bad => False

/-- What is asked of an operation's run. -/
def Goes (P : Program) (w : World) (k : Value → World → Prop) : Result Next → Prop
  | .ok (.value v) w' => k v w'
  | .ok .skip w' => k undef w'
  | .ok (.enter f args) w' => w' = w ∧ Calls P f args w fun e w'' => ∃ v, e = .returned v ∧ k v w''
  | .ok (.round l f tmps assign body) w' => w' = w ∧ RoundIn Fence.wide 0 P l f tmps assign body w fun e w'' => ∃ v, e = .returned v ∧ k v w''
  | _ => False
/-- The fence of all functions, in a round or in none. -/
def fz (ro : Option Nat) : Fence := { Fence.wide with round := ro }
theorem fz_depth {ro : Option Nat} {n : Nat} (h : (fz ro).depth.isSome = true) : 1 ≤ n := by
  have h' : false = true := h
  cases h'
theorem fz_calls {P : Program} {ro : Option Nat} {n : Nat} {f : FuncId} {args : Array Value} {w : World} {R : Ending → World → Prop} (h : Calls P f args w R) : CallsIn (fz ro) n P f args w R := by
  have h1 : CallsIn Fence.wide n P f args w R := callsIn_wide.2 h
  cases ro with
  | none => exact h1
  | some l => exact h1.inRound l
theorem fz_round {P : Program} {ro : Option Nat} {n l : Nat} {f : FuncId} {tmps : Array Value} {assign body : Code} {w : World} {R : Ending → World → Prop} (h : RoundIn Fence.wide 0 P l f tmps assign body w R) : RoundIn (fz ro) n P l f tmps assign body w R :=
  ⟨trivial, fun c cs _ => h.2 c cs (room_wide _)⟩
theorem Goes.wp {P : Program} {ro : Option Nat} {o : Oper} {a : Act} {w : World} {next : Act → World → Prop} {Q : Exit → Act → World → Prop} (hd : ∀ c, o.op ≠ .defer c)
    (h : Goes P w (fun v w' => next (a.put o.dst v) w') ((execOp a.eval o).run P w)) : o.wpIn (fz ro) 0 P a w next Q := by
  refine ⟨fun _ _ => trivial, ?_⟩
  have hs : Oper.semAt (fz ro).round a.eval o = execOp a.eval o := by
    cases ro with
    | none => rfl
    | some l => exact Oper.semAt_some l a.eval o hd
  rw [hs]
  generalize (execOp a.eval o).run P w = r at h ⊢
  cases r with
  | halt x w' => exact h.elim
  | ok n w' =>
    cases n with
    | value v => exact h
    | skip => exact h
    | enter f args =>
      obtain ⟨rfl, h⟩ := h
      refine ⟨fun h => by simp [fz, Fence.wide] at h, fz_calls (Calls.mono h ?_)⟩
      rintro e w'' ⟨v, rfl, hk⟩
      exact hk
    | round l f tmps assign body =>
      obtain ⟨rfl, h⟩ := h
      refine ⟨fun h => by simp [fz, Fence.wide] at h, fz_round (RoundIn.mono h ?_)⟩
      rintro e w'' ⟨v, rfl, hk⟩
      exact hk
    | _ => exact h.elim

theorem orGen_ok {P : Program} {i g : Ins} {ρ : Env} {w : World} {k : Value → World → Prop} (h : vcI P (orGen i g) ρ w k) : vcI P i ρ w k ∨ vcI P g ρ w k := by
  unfold orGen at h
  split at h
  · exact .inr h
  · exact .inl h
theorem A1_ok {P : Program} {x : Option Arg} {f : Arg → Ins} {ρ : Env} {w : World} {k : Value → World → Prop} (h : vcI P (A1 x f) ρ w k) : ∃ a, x = some a ∧ vcI P (f a) ρ w k := by
  cases x with
  | none => exact h.elim
  | some a => exact ⟨a, rfl, h⟩
theorem elim_ok {α : Type} {P : Program} {x : Option α} {f : α → Ins} {ρ : Env} {w : World} {k : Value → World → Prop} (h : vcI P (x.elim .bad f) ρ w k) : ∃ a, x = some a ∧ vcI P (f a) ρ w k := by
  cases x with
  | none => exact h.elim
  | some a => exact ⟨a, rfl, h⟩
theorem allA_ev {N : Nat} {ρ : Env} : ∀ {l : List Operand} {as : List Arg}, allA N l = some as → l.map (act N ρ).eval = argsV ρ as
  | [], as, h => by injection h with h; subst h; rfl
  | x :: r, as, h => by
    simp only [allA, Option.bind_eq_some_iff, Option.map_eq_some_iff] at h
    obtain ⟨a, ha, b, hb, rfl⟩ := h
    simp only [argsV, List.map_cons, trA_ev ha]
    congr 1
    exact allA_ev hb
theorem optA_ev {N : Nat} {ρ : Env} {x : Option Operand} {a : Option Arg} (h : optA N x = some a) : x.map (act N ρ).eval = a.map (Arg.ev ρ) := by
  cases x with
  | none => injection h with h; subst h; rfl
  | some x =>
    simp only [optA, Option.map_eq_some_iff] at h
    obtain ⟨b, hb, rfl⟩ := h
    simp [trA_ev hb]

section
variable {P : Program} {N : Nat} {ρ : Env} {w : World} {k : Value → World → Prop}
theorem szOf_run {t : TypeId} {n : Nat} (h : szOf P t = some n) (w : World) : (sizeOf t).run P w = .ok n w := by
  unfold szOf at h
  cases hq : P.info? t with
  | none => simp [hq] at h
  | some i =>
    have : i.size = n := by simpa [hq] using h
    simp [sizeOf, typeInfo, hq, this]
theorem isAgg_run {t : TypeId} {d : TypeDesc} (h : P.underlying t = some d) (w : World) : (isAgg t).run P w = .ok (isAggB d) w := by
  unfold isAgg
  rw [Sem.run_bind, run_underlying h w]
  cases d <;> rfl
theorem lds_run (a : Addr) : ∀ (n i : Nat) (l : List Value) (acc : Array Value), ldsV w a i n = some l → (loadCellsFrom a i n acc).run P w = .ok (acc ++ l.toArray) w
  | 0, i, l, acc, h => by injection h with h; subst h; simp [loadCellsFrom]
  | n + 1, i, l, acc, h => by
    simp only [ldsV, Option.bind_eq_some_iff, Option.map_eq_some_iff] at h
    obtain ⟨v, hv, r, hr, rfl⟩ := h
    have ih := lds_run a n (i + 1) r (acc.push v) hr
    simp only [loadCellsFrom, Sem.run_bind]
    have : (load (a.add i)).run P w = .ok v w := by simp [load, Sem.run, hv]
    rw [this]
    simp only [Result.andThen_ok, ih]
    simp
theorem okCell_eq (v : Value) : v.oneCell' = okCell v := by cases v <;> rfl
theorem cells_eq (v : Value) : v.cells.toList = cellsV v := by cases v <;> rfl
theorem addr_eta (a : Addr) (h : a.spot = none) : (⟨a.block, a.off, none⟩ : Addr) = a := by cases a; simp_all
theorem storeVar_ok {n : Nat} {t : TypeId} {a : Addr} {v : Value} {w' : World} (hs : szOf P t = some n) (h : stV w n (.pointer (some a)) v = some w') : (storeVar t a v).run P w = .ok () w' := by
  simp only [stV, Option.bind_eq_some_iff] at h
  obtain ⟨l, hl, h⟩ := h
  split at h
  · rename_i hc
    obtain ⟨h1, h2, h3, h4⟩ := hc
    injection h with h; subst h
    obtain ⟨ty, hty⟩ := blk_some hl
    have hst := run_storeCells_at P a.block a.off ty (cellsV v) 0 l.toArray w hty (by simp; omega) (by
      intro x hx
      rw [okCell_eq]
      exact List.all_eq_true.1 h4 x hx)
    rw [addr_eta a h1] at hst
    have hsz : v.cells.size = n := by rw [← Array.length_toList, cells_eq]; exact h2
    simp only [Nat.add_zero] at hst
    simp only [storeVar, Sem.run_bind, szOf_run hs w, Result.andThen_ok, hsz, ne_eq, not_true, if_false, cells_eq]
    rw [hst, put_row hl, h2]
  · cases h
end
end Go.Proofs.YtpnefcapiiemdaaGreatDoor.E

/- That the translation of an operation is sound. Conditions: none. -/
namespace Go.Proofs.YtpnefcapiiemdaaGreatDoor.E
open Go.RowKit

section
variable {P : Program} {N : Nat} {ρ : Env} {w : World} {k : Value → World → Prop}

theorem run_eqGuard_plain (op : BinOp) (t : TypeId) (x y : Operand) (a b : Value) (h : (match a, b with | .nilIface, .nilIface => false | .agg _, .agg _ => false | _, _ => true) = true) : (eqGuard op t x y a b).run P w = .ok () w := by
  unfold eqGuard
  cases a <;> cases b <;> first | (simp at h; done) | (split <;> rfl)

theorem goes_bin {op : BinOp} {t : TypeId} {x y : Operand} {a b : Value} {v : Value} (h : binV op a b = some v) (hop : op ≠ .shl ∧ op ≠ .shr) :
    (do eqGuard op t x y a b; binOp op t a b : Sem Value).run P w = .ok v w := by
  have hg : (eqGuard op t x y a b).run P w = .ok () w := run_eqGuard_plain op t x y a b (by cases a <;> cases b <;> first | rfl | simp [binV] at h)
  rw [Sem.run_bind, hg, Result.andThen_ok]
  cases a <;> cases b <;> simp only [binV] at h <;> try (cases h; done)
  case int.int ka a kb b =>
    split at h
    · rename_i hk; subst hk
      cases op <;> simp [intV] at h <;> simp_all [binOp, Op.intArith, Op.intDiv, Op.intBits, Op.intCmp]
      all_goals
        subst h
        first | rfl | (congr 1; rw [Bool.eq_iff_iff]; simp; done) | skip
    · cases h
  case string.string s u =>
    cases op <;> simp [strV] at h <;> simp_all [binOp, Op.stringOp, ByteArray.toList_eq]
    case add =>
      obtain ⟨h1, rfl⟩ := h
      rw [if_neg (by omega)]
      congr 2
    all_goals
      have e : (s.data == u.data) = decide (s.data = u.data) := by rw [Bool.eq_iff_iff]; simp
      rw [e]
      exact h

theorem sft_run {op : BinOp} {t : TypeId} {x y : Operand} {a b : Value} {v : Value} (h : sftV op a b = some v) (hop : op = .shl ∨ op = .shr) :
    (do eqGuard op t x y a b; binOp op t a b : Sem Value).run P w = .ok v w := by
  have hg : (eqGuard op t x y a b).run P w = .ok () w := run_eqGuard_plain op t x y a b (by cases a <;> cases b <;> first | rfl | simp [sftV] at h)
  rw [Sem.run_bind, hg, Result.andThen_ok]
  cases a <;> cases b <;> simp only [sftV] at h <;> try (cases h; done)
  case int.int ka a kb b =>
    unfold shV at h
    split at h
    · cases h
    · rename_i hb
      rcases hop with rfl | rfl <;> simp [binOp, Op.shift, hb] <;> simpa using h

def eqTy (P : Program) (t : TypeId) (kd : Nat) : Bool :=
  match P.underlying t, kd with
  | some (.pointer _), 0 | some (.slice _), 1 | some (.map _ _), 2 | some (.func _ _ _), 3 | some .bool, 4 => true
  | _, _ => false
theorem eqIn_run {t : TypeId} {a b : Value} {r : Bool} {kd : Nat} (h : eqV kd a b = some r) (d : Nat) (ht : eqTy P t kd = true) :
    (Op.equalIn (d + 1) t a b).run P w = .ok r w := by
  unfold eqTy at ht
  unfold eqV at h
  unfold Op.equalIn
  split at h <;> first | (cases h; done) | skip
  all_goals
    split at ht <;> simp at * <;> try (cases ht; done)
    rename_i hu _
    first
      | (simp [run_underlying hu]; exact h)
      | (simp [run_underlying hu, h])
theorem eq_run {op : BinOp} {t : TypeId} {x y : Operand} {a b : Value} {r : Bool} {kd : Nat} {neg : Bool} (h : eqV kd a b = some r) (ht : eqTy P t kd = true) (hop : op = if neg then .neq else .eql) :
    (do eqGuard op t x y a b; binOp op t a b : Sem Value).run P w = .ok (.bool (r != neg)) w := by
  have hg : (eqGuard op t x y a b).run P w = .ok () w := run_eqGuard_plain op t x y a b (by
    unfold eqV at h
    split at h <;> first | rfl | (cases h; done))
  have he := eqIn_run (w := w) h 9999 ht
  rw [Sem.run_bind, hg, Result.andThen_ok]
  have hq : (Op.equal t a b).run P w = .ok r w := he
  have hb : ∀ op', (op' = .eql ∨ op' = .neq) → binOp op' t a b = (if op' = .eql then (do pure (.bool (← Op.equal t a b))) else (do pure (.bool (!(← Op.equal t a b)))) : Sem Value) := by
    intro op' hop'
    unfold eqV at h
    split at h <;> first | (cases h; done) | (rcases hop' with rfl | rfl <;> rfl)
  cases neg
  · simp at hop; subst hop
    rw [hb _ (.inl rfl)]
    simp [hq]
  · simp at hop; subst hop
    rw [hb _ (.inr rfl)]
    simp [hq]

theorem eqi_run {op : BinOp} {t : TypeId} {x y : Operand} {a b : Value} {r : Bool} {neg : Bool} (h : eqI a b = some r) (ht : (match P.underlying t with | some (.interface _) => true | _ => false) = true) (hc : (isC x || isC y) = true) (hop : op = if neg then .neq else .eql) :
    (do eqGuard op t x y a b; binOp op t a b : Sem Value).run P w = .ok (.bool (r != neg)) w := by
  have hg : (eqGuard op t x y a b).run P w = .ok () w := by
    unfold eqGuard
    unfold eqI at h
    split at h <;> first | (cases h; done) | (split <;> first | rfl | (cases x <;> cases y <;> first | rfl | simp [isC] at hc))
  have he : (Op.equal t a b).run P w = .ok r w := by
    show (Op.equalIn (9999 + 1) t a b).run P w = .ok r w
    unfold Op.equalIn
    split at ht
    · rename_i hu
      unfold eqI at h
      split at h <;> first | (cases h; done) | (injection h with h; subst h; simp [run_underlying hu])
    · cases ht
  rw [Sem.run_bind, hg, Result.andThen_ok]
  have hb : ∀ op', (op' = .eql ∨ op' = .neq) → binOp op' t a b = (if op' = .eql then (do pure (.bool (← Op.equal t a b))) else (do pure (.bool (!(← Op.equal t a b)))) : Sem Value) := by
    intro op' hop'
    unfold eqI at h
    split at h <;> first | (cases h; done) | (rcases hop' with rfl | rfl <;> rfl)
  cases neg
  · simp at hop; subst hop
    rw [hb _ (.inl rfl)]
    simp [he]
  · simp at hop; subst hop
    rw [hb _ (.inr rfl)]
    simp [he]

theorem bin_ok {op : BinOp} {t : TypeId} {x y : Operand} {a b : Arg} (h : vcI P (trBin P op t (isC x || isC y) a b) ρ w k) :
    ∃ v, (do eqGuard op t x y (a.ev ρ) (b.ev ρ); binOp op t (a.ev ρ) (b.ev ρ) : Sem Value).run P w = .ok v w ∧ k v w := by
  have hEq : ∀ neg, op = (if neg then .neq else .eql) → vcI P (trEq P neg t (isC x || isC y) a b) ρ w k → ∃ v, (do eqGuard op t x y (a.ev ρ) (b.ev ρ); binOp op t (a.ev ρ) (b.ev ρ) : Sem Value).run P w = .ok v w ∧ k v w := by
    intro neg hop h
    have hshl : op ≠ .shl ∧ op ≠ .shr := by cases neg <;> simp at hop <;> subst hop <;> simp
    unfold trEq at h
    split at h
    case h_6 hu =>
      split at h
      · rename_i hc
        obtain ⟨r, hr, hk⟩ := seqO_ex h
        exact ⟨_, eqi_run hr (by rw [hu]) hc hop, hk⟩
      · exact h.elim
    case h_7 =>
      obtain ⟨r, hr, hk⟩ := seqO_ex h
      rw [← hop] at hr
      exact ⟨_, goes_bin hr hshl, hk⟩
    case h_8 =>
      obtain ⟨r, hr, hk⟩ := seqO_ex h
      rw [← hop] at hr
      exact ⟨_, goes_bin hr hshl, hk⟩
    case h_9 => exact h.elim
    all_goals
      rename_i hu
      obtain ⟨r, hr, hk⟩ := seqO_ex h
      exact ⟨_, eq_run hr (by simp [eqTy, hu]) hop, hk⟩
  unfold trBin at h
  split at h
  · exact hEq false rfl h
  · exact hEq true rfl h
  · obtain ⟨v, hv, hk⟩ := seqO_ex h
    exact ⟨v, sft_run hv (.inl rfl), hk⟩
  · obtain ⟨v, hv, hk⟩ := seqO_ex h
    exact ⟨v, sft_run hv (.inr rfl), hk⟩
  · rename_i h1 h2
    obtain ⟨v, hv, hk⟩ := seqO_ex h
    exact ⟨v, goes_bin hv ⟨by simpa using h1, by simpa using h2⟩, hk⟩
end
end Go.Proofs.YtpnefcapiiemdaaGreatDoor.E
