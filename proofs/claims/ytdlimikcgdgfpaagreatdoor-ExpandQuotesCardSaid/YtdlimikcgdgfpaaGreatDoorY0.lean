/- A calculus of the model's code over slots as a function: resolved instructions, what each asks, and that this is sound. Conditions: none. -/
import Derived.WalkKit
import Derived.WalkLawsBesides
import Derived.WalkSpells
import Derived.RangeFuncRecord
import Derived.RangeFuncCalls
import Derived.OrdersIn
import Derived.TacticsIn
import Derived.Orders
import Derived.Sort.LoopGhostIn
import Derived.Scope
import Derived.DefersIn
set_option linter.unusedVariables false
set_option linter.unusedSimpArgs false
set_option maxHeartbeats 4000000
set_option maxRecDepth 100000
open Nat renaming reduceEqDiff → Q1, reduceAdd → Q2, reduceSub → Q3, reduceMul → Q4, reduceLT → Q5, reduceLeDiff → Q6, sub_zero → Q7
open Int renaming reduceNeg → Q8, reduceToNat → Q9
namespace Go.Proofs.YtdlimikcgdgfpaaGreatDoor.E
open Go.RowKit
abbrev Env := Nat → Value
def up (ρ : Env) (t : Nat) (v : Value) : Env := fun i => if i = t then v else ρ i
def upd (ρ : Env) : Option Nat → Value → Env
  | some d, v => up ρ d v
  | none, _ => ρ
def dfr1 : Value → Deferred
  | .func fn first cap => { target := .fn fn cap, args := first }
  | .int _ n => { target := .collected n.toNat, args := #[] }
  | _ => { target := .nil, args := #[] }
def dfrs : Value → List Deferred
  | .tuple vs => vs.toList.map dfr1
  | _ => []
def act (N : Nat) (ρ : Env) : Act := { tmps := (Array.range N).map ρ, defers := dfrs (ρ N) }
theorem act_put (N : Nat) (ρ : Env) (d : Option Nat) (v : Value) (hd : d ≠ some N) : (act N ρ).put d v = act N (upd ρ d v) := by
  cases d with
  | none => rfl
  | some d =>
    have hn : ¬ N = d := fun e => hd (by rw [e])
    simp only [Act.put, act, upd]
    rw [show up ρ d v N = ρ N from by simp [up, hn]]
    congr 1
    apply Array.ext_getElem?
    intro i
    rw [Array.getElem?_setIfInBounds]
    simp only [Array.getElem?_map, Array.getElem?_range, Array.size_map, Array.size_range]
    by_cases h : d = i
    · subst h
      by_cases hd : d < N <;> simp [hd, up]
    · rw [if_neg h]
      by_cases hd : i < N <;> simp [hd, up, Ne.symm h]
theorem act_get (N : Nat) (ρ : Env) (t : Nat) (h : t < N) : (act N ρ).tmps.getD t undef = ρ t := by
  simp [act, h]
inductive Arg where
  | t (n : Nat)
  | v (x : Value)
def Arg.ev (ρ : Env) : Arg → Value
  | .t n => ρ n
  | .v x => x
def trA (N : Nat) : Operand → Option Arg
  | .tmp t => if t < N then some (.t t) else none
  | .const x => some (.v x)
  | .global g => some (.v (.pointer (some ⟨g, 0, none⟩)))
  | .func f => some (.v (.func (.func f) #[] #[]))
theorem trA_ev {N : Nat} {ρ : Env} {x : Operand} {a : Arg} (h : trA N x = some a) : (act N ρ).eval x = a.ev ρ := by
  cases x with
  | tmp t =>
    simp only [trA] at h
    split at h
    · rename_i ht
      injection h with h; subst h
      simp only [Act.eval, Arg.ev]
      exact act_get N ρ t ht
    · cases h
  | const v => injection h with h; subst h; rfl
  | global g => injection h with h; subst h; rfl
  | func f => injection h with h; subst h; rfl
def blk (w : World) (g : Nat) : Option (List Value) :=
  match w.heap[g]? with
  | some (.cells c _ (0, 0)) => some c.toList
  | _ => none
def tyOf (w : World) (g : Nat) : TypeId := match w.heap[g]? with | some (.cells _ t _) => t | _ => 0
def put (w : World) (g : Nat) (l : List Value) : World := { w with heap := w.heap.setIfInBounds g (.cells l.toArray (tyOf w g) (0, 0)) }
def size (w : World) : Nat := w.heap.size
def new (w : World) (l : List Value) (t : TypeId) : World := w.alloc (.cells l.toArray t)
section
variable {w : World} {g h : Nat} {l l' : List Value}
theorem blk_some (hb : blk w g = some l) : ∃ t, w.heap[g]? = some (.cells l.toArray t (0, 0)) := by
  unfold blk at hb
  split at hb
  · rename_i c t heq
    injection hb with hb; subst hb
    exact ⟨t, by simpa using heq⟩
  · cases hb
theorem blk_of {t : TypeId} (hb : w.heap[g]? = some (.cells l.toArray t (0, 0))) : blk w g = some l := by
  simp [blk, hb]
theorem blk_lt (hb : blk w g = some l) : g < size w := by
  obtain ⟨t, ht⟩ := blk_some hb
  exact (Array.getElem?_eq_some_iff.1 ht).1
theorem size_put (w : World) (g : Nat) (l : List Value) : size (put w g l) = size w := by simp [size, put]
theorem size_new (w : World) (l : List Value) (t : TypeId) : size (new w l t) = size w + 1 := by simp [size, new]
theorem put_row (hb : blk w g = some l) (l' : List Value) : w.setRow g l'.toArray = put w g l' := by
  obtain ⟨t, ht⟩ := blk_some hb
  have hlt := blk_lt hb
  unfold World.setRow put
  congr 1
  apply Array.ext_getElem?
  intro i
  rw [Array.getElem?_setIfInBounds, Array.getElem?_modify]
  by_cases h : g = i
  · subst h
    have hh : g < w.heap.size := hlt
    simp only [tyOf, ht, if_true, if_pos hh, Option.map_some]
  · rw [if_neg h, if_neg h]
theorem blk_put (hg : g < size w) (l' : List Value) : blk (put w g l') g = some l' := by
  have : (put w g l').heap[g]? = some (.cells l'.toArray (tyOf w g) (0, 0)) := by
    simp only [put, Array.getElem?_setIfInBounds, if_true]
    exact if_pos hg
  exact blk_of this
theorem heap_put_ne (hn : h ≠ g) (l' : List Value) : (put w g l').heap[h]? = w.heap[h]? := by
  simp only [put, Array.getElem?_setIfInBounds]
  rw [if_neg (Ne.symm hn)]
theorem cel (hb : blk w g = some l) (o : Nat) : w.cell? ⟨g, o, none⟩ = l[o]? := by
  obtain ⟨t, ht⟩ := blk_some hb
  rw [cell_of_row w g o _ t (0, 0) ht]; simp
theorem fro (hb : blk w g = some l) (o : Nat) (sp : Option Nat) : w.frozen? ⟨g, o, sp⟩ = false := by
  obtain ⟨t, ht⟩ := blk_some hb
  simp [World.frozen?, ht]
theorem cel_put_ne (hn : h ≠ g) (l' : List Value) (o : Nat) : (put w g l').cell? ⟨h, o, none⟩ = w.cell? ⟨h, o, none⟩ := by
  simp only [World.cell?, heap_put_ne hn]
end
def seqO {α : Type} (o : Option α) (k : α → Prop) : Prop := match o with | some v => k v | none => False
theorem seqO_mono {α : Type} {o : Option α} {k k' : α → Prop} (h : ∀ v, k v → k' v) (hh : seqO o k) : seqO o k' := by
  cases o with
  | none => exact hh
  | some v => exact h v hh
theorem seqO_ex {α : Type} {o : Option α} {k : α → Prop} (h : seqO o k) : ∃ v, o = some v ∧ k v := by
  cases o with
  | none => exact h.elim
  | some v => exact ⟨v, rfl, h⟩
def bs (l : List UInt8) : ByteArray := ⟨l.toArray⟩
theorem bs_size (l : List UInt8) : (bs l).size = l.length := by simp [bs, ByteArray.size]
theorem bs_data (l : List UInt8) : (bs l).data = l.toArray := rfl
theorem bs_of (s : ByteArray) : s = bs s.data.toList := by simp [bs]
end Go.Proofs.YtdlimikcgdgfpaaGreatDoor.E
namespace Go.Proofs.YtdlimikcgdgfpaaGreatDoor.E
open Go.RowKit
def intV (op : BinOp) (k : IntKind) (a b : Int) : Option Value :=
  match op with
  | .add => some (.int k (k.wrap (a + b)))
  | .sub => some (.int k (k.wrap (a - b)))
  | .mul => some (.int k (k.wrap (a * b)))
  | .quo => if b = 0 then none else some (.int k (k.wrap (a.tdiv b)))
  | .rem => if b = 0 then none else some (.int k (a.tmod b))
  | .and => some (.int k (k.wrap (BitVec.ofInt k.bits a &&& BitVec.ofInt k.bits b).toNat))
  | .or => some (.int k (k.wrap (BitVec.ofInt k.bits a ||| BitVec.ofInt k.bits b).toNat))
  | .xor => some (.int k (k.wrap (BitVec.ofInt k.bits a ^^^ BitVec.ofInt k.bits b).toNat))
  | .andNot => some (.int k (k.wrap (BitVec.ofInt k.bits a &&& ~~~BitVec.ofInt k.bits b).toNat))
  | .eql => some (.bool (decide (a = b)))
  | .neq => some (.bool (decide (a ≠ b)))
  | .lss => some (.bool (decide (a < b)))
  | .leq => some (.bool (decide (a ≤ b)))
  | .gtr => some (.bool (decide (b < a)))
  | .geq => some (.bool (decide (b ≤ a)))
  | _ => none
def strV (op : BinOp) (a b : List UInt8) : Option Value :=
  match op with
  | .add => if a.length + b.length ≤ 9223372036854775807 then some (.string (bs (a ++ b))) else none
  | .eql => some (.bool (decide (a = b)))
  | .neq => some (.bool (decide (a ≠ b)))
  | .lss => some (.bool (Op.bytesLess a b))
  | .leq => some (.bool (Op.bytesLess a b || decide (a = b)))
  | .gtr => some (.bool (!(Op.bytesLess a b || decide (a = b))))
  | .geq => some (.bool (!Op.bytesLess a b))
  | _ => none
def shV (op : BinOp) (k : IntKind) (a b : Int) : Option Value :=
  if b < 0 then none else
  match op with
  | .shl => some (.int k (k.wrap (a * 2 ^ min b.toNat k.bits)))
  | .shr => some (.int k (a.fdiv (2 ^ min b.toNat k.bits)))
  | _ => none
def binV (op : BinOp) : Value → Value → Option Value
  | .int k a, .int k' b => if k = k' then intV op k a b else none
  | .string a, .string b => strV op a.data.toList b.data.toList
  | _, _ => none
def sftV (op : BinOp) : Value → Value → Option Value
  | .int k a, .int _ b => shV op k a b
  | _, _ => none
def eqV : Nat → Value → Value → Option Bool
  | 0, .pointer none, .pointer b => some b.isNone
  | 0, .pointer (some _), .pointer none => some false
  | 1, .slice none _ _, .slice b _ _ => some b.isNone
  | 1, .slice (some _) _ _, .slice none _ _ => some false
  | 2, .map none, .map b => some b.isNone
  | 2, .map (some _), .map none => some false
  | 3, .nilFunc, .nilFunc => some true
  | 3, .nilFunc, .func _ _ _ => some false
  | 3, .func _ _ _, .nilFunc => some false
  | 4, .bool a, .bool b => some (a == b)
  | _, _, _ => none
def eqI : Value → Value → Option Bool
  | .nilIface, .nilIface => some true
  | .nilIface, .iface _ _ => some false
  | .iface _ _, .nilIface => some false
  | _, _ => none
def unV (op : UnOp) (x : Value) : Option Value :=
  match op, x with
  | .neg, .int k n => some (.int k (k.wrap (0 - n)))
  | .xor, .int k n => some (.int k (k.wrap (BitVec.ofInt k.bits (if k.signed then -1 else k.max) ^^^ BitVec.ofInt k.bits n).toNat))
  | .not, .bool b => some (.bool !b)
  | _, _ => none
def asB : Value → Option Bool
  | .bool b => some b
  | _ => none
def nckV : Value → Option Value
  | .pointer (some a) => some (.pointer (some a))
  | .func (.func f) a b => some (.func (.func f) a b)
  | .iface t v => some (.iface t v)
  | _ => none
def fldV (off : Nat) : Value → Option Value
  | .pointer (some a) => some (.pointer (some (a.add off)))
  | _ => none
def get1V (off : Nat) : Value → Option Value
  | .agg cs => cs.toList[off]?
  | _ => none
def getNV (off n : Nat) : Value → Option Value
  | .agg cs => some (.agg ((cs.toList.drop off).take n).toArray)
  | _ => none
def idxV (sz : Nat) : Value → Value → Option Value
  | .slice (some a) n _, .int _ i => if 0 ≤ i ∧ i < n then some (.pointer (some (a.add (i.toNat * sz)))) else none
  | _, _ => none
def idxAV (len sz : Nat) : Value → Value → Option Value
  | .pointer (some a), .int _ i => if 0 ≤ i ∧ i < len then some (.pointer (some (a.add (i.toNat * sz)))) else none
  | _, _ => none
def strAt (l : List UInt8) (i : Int) : Option Value := if 0 ≤ i then (l[i.toNat]?).map fun b => .int .u8 b.toNat else none
def ixSV : Value → Value → Option Value
  | .string s, .int _ i => strAt s.data.toList i
  | _, _ => none
def bndV (d : Nat) : Option Value → Option Int
  | none => some (d : Int)
  | some (.int _ i) => some i
  | _ => none
def subV (l : List UInt8) (lo hi : Int) : Option Value :=
  if 0 ≤ lo ∧ lo ≤ hi ∧ hi ≤ l.length then some (.string (bs ((l.drop lo.toNat).take (hi.toNat - lo.toNat)))) else none
def subSV : Value → Option Value → Option Value → Option Value
  | .string s, lo, hi => (bndV 0 lo).bind fun a => (bndV s.size hi).bind fun b => subV s.data.toList a b
  | _, _, _ => none
def cutV (sz : Nat) (a : Option Addr) (c : Nat) (lo hi : Int) : Option Value :=
  if 0 ≤ lo ∧ lo ≤ hi ∧ hi ≤ c then some (.slice (if c = lo.toNat then a else a.map (·.add (lo.toNat * sz))) (hi.toNat - lo.toNat) (c - lo.toNat)) else none
def subLV (sz : Nat) : Value → Option Value → Option Value → Option Value
  | .slice a n c, lo, hi => (bndV 0 lo).bind fun x => (bndV n hi).bind fun y => cutV sz a c x y
  | _, _, _ => none
def subAV (len sz : Nat) : Value → Option Value → Option Value → Option Value
  | .pointer (some a), lo, hi => (bndV 0 lo).bind fun x => (bndV len hi).bind fun y => cutV sz (some a) len x y
  | _, _, _ => none
def cviV (k : IntKind) : Value → Option Value
  | .int _ n => some (.int k (k.wrap n))
  | _ => none
def cssV : Value → Option Value
  | .string s => some (.string s)
  | _ => none
def extV (i : Nat) : Value → Option Value
  | .tuple vs => vs.toList[i]?
  | _ => none
def lenV : Bool → Value → Option Value
  | true, .string s => some (.int .i64 s.size)
  | false, .slice _ n _ => some (.int .i64 n)
  | _, _ => none
def min2V : Value → Value → Option Value
  | .int k x, .int _ y => some (.int k (if y < x then y else x))
  | _, _ => none
def max2V : Value → Value → Option Value
  | .int k x, .int _ y => some (.int k (if x < y then y else x))
  | _, _ => none
def cellsV : Value → List Value
  | .agg cs => cs.toList
  | v => [v]
def okCell : Value → Bool
  | .agg _ | .tuple _ => false
  | _ => true
def lay : List Value → List (Nat × Nat × Value) → Option (List Value)
  | l, [] => some l
  | l, (off, n, v) :: r => if (cellsV v).length = n ∧ off + n ≤ l.length then lay (l.take off ++ cellsV v ++ l.drop (off + n)) r else none
end Go.Proofs.YtdlimikcgdgfpaaGreatDoor.E
namespace Go.Proofs.YtdlimikcgdgfpaaGreatDoor.E
open Go.RowKit
inductive LK where
  | lk (t : TypeId) (ok : Bool) | mup (t : TypeId) | mkm (t : TypeId) | rng (t : TypeId) | nxt (s : Bool) (ty : TypeId)
  | blt (b : Builtin) (ts : List TypeId) (ty : TypeId)
  | ent | mki (t : TypeId) | tas (t u : TypeId) (ok : Bool) | men (t : TypeId) | est (t : TypeId)
  | cv (s d : TypeId) | bop (op : BinOp) (t : TypeId) (x y : Operand) | ext (f : FuncId) | dfr
def consM (m v : Value) : Value := match v with | .tuple vs => .tuple (m :: vs.toList).toArray | _ => .tuple [m].toArray
def bltSem (b : Builtin) (ts : List TypeId) (ty : TypeId) (vs : List Value) : Sem Value :=
  match b with
  | .len => Builtin.len_ ts.toArray ty vs.toArray
  | .cap => Builtin.cap_ ts.toArray ty vs.toArray
  | .delete => Builtin.delete_ ts.toArray ty vs.toArray
  | .clear => Builtin.clear_ ts.toArray ty vs.toArray
  | .unsafeString => Builtin.unsafeString_ ts.toArray ty vs.toArray
  | .unsafeSliceData => Builtin.unsafeSliceData_ ts.toArray ty vs.toArray
  | .unsafeStringData => Builtin.unsafeStringData_ ts.toArray ty vs.toArray
  | .min => Builtin.min_ ts.toArray ty vs.toArray
  | .max => Builtin.max_ ts.toArray ty vs.toArray
  | _ => stuck ""
def lkSem : LK → List Value → Sem Value
  | .lk t ok, [x, i] => Instr.lookup t x i ok
  | .mup t, [m, k, v] => do Instr.mapUpdate t m k v; pure undef
  | .mkm t, [r] => Instr.makeMap t (some r)
  | .rng t, [x] => Instr.range t x
  | .nxt s ty, [x] => Instr.next x s ty
  | .ent, [x] => Instr.entry x
  | .mki t, [x] => Instr.makeInterface t x
  | .tas t u ok, [x] => Instr.typeAssert x t u ok
  | .men t, [m, k] => Instr.mapEntry t m k
  | .est t, [m, k, v] => do Instr.entryStore t m k v; pure undef
  | .blt b ts ty, vs => bltSem b ts ty vs
  | .cv s d, [x] => convert s d x
  | .bop op t x y, [a, b] => do eqGuard op t x y a b; binOp op t a b
  | .ext f, vs => do
    match ← callFunc f vs.toArray with
    | .value v => pure v
    | _ => stuck ""
  | .dfr, [.func (.func f) a b, m] => pure (consM (.func (.func f) a b) m)
  | _, _ => stuck ""
inductive Ins where
  | mov (x : Arg) | pick (c a b : Arg)
  | bin (op : BinOp) (x y : Arg) | sft (op : BinOp) (x y : Arg)
  | eq (kd : Nat) (neg : Bool) (x y : Arg) | eqi (neg : Bool) (x y : Arg)
  | un (op : UnOp) (x : Arg)
  | load (x : Arg) | loadN (n : Nat) (x : Arg) | store (n : Nat) (x y : Arg)
  | alloc (t : TypeId) (z : List Value) | box (t : TypeId) (x : Arg)
  | build (z : List Value) (ps : List (Nat × Nat × Arg))
  | bsl (e : TypeId) (n : Nat) (z : List Value) (ps : List (Nat × Nat × Arg))
  | nck (x : Arg) | fld (off : Nat) (x : Arg) | get1 (off : Nat) (x : Arg) | getN (off n : Nat) (x : Arg)
  | idx (sz : Nat) (x i : Arg) | idxA (len sz : Nat) (x i : Arg) | ixS (x i : Arg)
  | subS (x : Arg) (lo hi : Option Arg) | subL (sz : Nat) (x : Arg) (lo hi : Option Arg) | subA (len sz : Nat) (x : Arg) (lo hi : Option Arg)
  | cvi (k : IntKind) (x : Arg) | cvBS (x : Arg) | cvSS (x : Arg)
  | mkf (f : Nat) (first cap : List Arg)
  | mks (e : TypeId) (sz bytes : Nat) (z : List Value) (l c : Arg)
  | mkm
  | ext (i : Nat) (x : Arg) | len (s : Bool) (x : Arg)
  | min2 (x y : Arg) | max2 (x y : Arg)
  | call (f : Nat) (args : List Arg) | callv (x : Arg) (args : List Arg)
  | app (t u : TypeId) (x y : Arg)
  | cpy (t u : TypeId) (x y : Arg)
  | chk (x : Arg) (d : Nat) | chkN (n : Nat) (x : Arg) (d : Nat)
  | gen (kd : LK) (xs : List Arg)
  | bad
def A1 (x : Option Arg) (f : Arg → Ins) : Ins := x.elim .bad f
def allA (N : Nat) : List Operand → Option (List Arg)
  | [] => some []
  | x :: r => (trA N x).bind fun a => (allA N r).map (a :: ·)
def optA (N : Nat) : Option Operand → Option (Option Arg)
  | none => some none
  | some x => (trA N x).map some
def isAggB : TypeDesc → Bool | .struct _ | .array _ _ => true | _ => false
def szOf (P : Program) (t : TypeId) : Option Nat := (P.info? t).map (·.size)
def zOf (P : Program) (t : TypeId) : Option (List Value) := (P.info? t).bind fun i => i.zero.map fun z => z.cells.toList
def okFn (P : Program) (f : Nat) : Bool := match P.funcs[f]? with | some fn => fn.body.isSome && !(fn.name == "runtime.NumGoroutine") | none => false
def plA (P : Program) (N : Nat) (place : Nat → Option (Nat × Nat)) : List (Nat × Operand) → Option (List (Nat × Nat × Arg))
  | [] => some []
  | (i, x) :: r => (trA N x).bind fun a => (place i).bind fun p => (plA P N place r).map ((p.1, p.2, a) :: ·)
def trLoad (P : Program) (t : TypeId) (x : Arg) : Ins :=
  match P.underlying t with
  | some d => if isAggB d then (match szOf P t with | some n => .loadN n x | none => .bad) else .load x
  | none => .bad
def trEq (P : Program) (neg : Bool) (t : TypeId) (cst : Bool) (x y : Arg) : Ins :=
  match P.underlying t with
  | some (.pointer _) => .eq 0 neg x y
  | some (.slice _) => .eq 1 neg x y
  | some (.map _ _) => .eq 2 neg x y
  | some (.func _ _ _) => .eq 3 neg x y
  | some .bool => .eq 4 neg x y
  | some (.interface _) => if cst then .eqi neg x y else .bad
  | some (.int _) | some .string => .bin (if neg then .neq else .eql) x y
  | _ => .bad
def isC : Operand → Bool | .const _ => true | _ => false
def fOf (P : Program) (s : TypeId) (f : Nat) : Option Field :=
  match P.underlying s with
  | some (.struct fs) => fs[f]?
  | _ => none
def trBin (P : Program) (op : BinOp) (t : TypeId) (cst : Bool) (x y : Arg) : Ins :=
  match op with
  | .eql => trEq P false t cst x y
  | .neq => trEq P true t cst x y
  | .shl | .shr => .sft op x y
  | _ => .bin op x y
def trBlt (N : Nat) (c : Call) (ty : TypeId) : Ins :=
  match c.callee with
  | .builtin b => (allA N c.args.toList).elim .bad fun as => match b with | .len | .cap | .delete | .clear | .unsafeString | .unsafeSliceData | .unsafeStringData | .min | .max => .gen (.blt b c.argTypes.toList ty) as | _ => .bad
  | _ => .bad
def trCall (P : Program) (N : Nat) (c : Call) : Ins :=
  match c.callee with
  | .value f => A1 (trA N f) fun fa => (allA N c.args.toList).elim .bad fun as =>
      match f with
      | .func g => if okFn P g then .call g as else .gen (.ext g) as
      | _ => .callv fa as
  | .builtin .len =>
    match c.args.toList, c.argTypes.toList with
    | [x], [t] => A1 (trA N x) fun a => match P.underlying t with | some .string => .len true a | some (.slice _) => .len false a | _ => .bad
    | _, _ => .bad
  | .builtin .min => match c.args.toList with | [x, y] => A1 (trA N x) fun a => A1 (trA N y) fun b => .min2 a b | _ => .bad
  | .builtin .max => match c.args.toList with | [x, y] => A1 (trA N x) fun a => A1 (trA N y) fun b => .max2 a b | _ => .bad
  | .builtin .append => match c.args.toList, c.argTypes.toList with | [x, y], [t, u] => A1 (trA N x) fun a => A1 (trA N y) fun b => .app t u a b | _, _ => .bad
  | .builtin .copy => match c.args.toList, c.argTypes.toList with | [x, y], [t, u] => A1 (trA N x) fun a => A1 (trA N y) fun b => .cpy t u a b | _, _ => .bad
  | _ => .bad
def trSlice (P : Program) (t : TypeId) (x : Arg) (lo hi : Option Arg) : Ins :=
  match P.underlying t with
  | some .string => .subS x lo hi
  | some (.slice e) => (match szOf P e with | some n => .subL n x lo hi | none => .bad)
  | some (.array len e) => (match szOf P e with | some n => .subA len n x lo hi | none => .bad)
  | _ => .bad
def trConv (P : Program) (s d : TypeId) (x : Arg) : Ins :=
  match P.underlying s, P.underlying d with
  | some (.int _), some (.int k) => .cvi k x
  | some .string, some .string => .cvSS x
  | some (.slice e), some .string => (match P.underlying e with | some (.int .u8) => .cvBS x | _ => .bad)
  | _, _ => .bad
def genEq (P : Program) (op : BinOp) (t : TypeId) (cst : Bool) : Bool :=
  match op with
  | .eql | .neq => (match P.underlying t with | some (.pointer _) => !cst | some (.struct _) | some (.array _ _) => true | some (.interface _) => !cst | _ => false)
  | _ => false
def orGen (i g : Ins) : Ins := match i with | .bad => g | i => i
def trI (P : Program) (N : Nat) (o : Oper) : Ins :=
  match o.op with
  | .move x | .assign x => A1 (trA N x) .mov
  | .pick c a b => A1 (trA N c) fun c => A1 (trA N a) fun a => A1 (trA N b) fun b => .pick c a b
  | .alloc t => (zOf P t).elim .bad fun z => .alloc t z
  | .box t x => A1 (trA N x) fun a => .box t a
  | .load t x => A1 (trA N x) fun a => trLoad P t a
  | .store t x y => A1 (trA N x) fun a => A1 (trA N y) fun b => (szOf P t).elim .bad fun n => .store n a b
  | .nilCheck x => A1 (trA N x) .nck
  | .binOp op t x y _ => A1 (trA N x) fun a => A1 (trA N y) fun b => if genEq P op t (isC x || isC y) then .gen (.bop op t x y) [a, b] else trBin P op t (isC x || isC y) a b
  | .unOp op _ x => A1 (trA N x) fun a => .un op a
  | .fieldAddr s x f => A1 (trA N x) fun a => (fOf P s f).elim .bad fun fd => match szOf P fd.type with | some (_ + 1) => .fld fd.offset a | _ => .bad
  | .field s x f => A1 (trA N x) fun a => (fOf P s f).elim .bad fun fd =>
      match P.underlying fd.type with
      | some d => if isAggB d then (match szOf P fd.type with | some n => .getN fd.offset n a | none => .bad) else .get1 fd.offset a
      | none => .bad
  | .indexAddr t x i => A1 (trA N x) fun a => A1 (trA N i) fun b =>
      match P.underlying t with
      | some (.slice e) => (match szOf P e with | some n => .idx n a b | none => .bad)
      | some (.array len e) => (match szOf P e with | some n => .idxA len n a b | none => .bad)
      | _ => .bad
  | .index t x i => A1 (trA N x) fun a => A1 (trA N i) fun b => match P.underlying t with | some .string => .ixS a b | _ => .bad
  | .slice t x lo hi mx => A1 (trA N x) fun a => (optA N lo).elim .bad fun l => (optA N hi).elim .bad fun h => match mx with | none => trSlice P t a l h | some _ => .bad
  | .convert s d x => A1 (trA N x) fun a => orGen (trConv P s d a) (.gen (.cv s d) [a])
  | .makeFunc fn first cap => match fn with | .func f => (allA N first.toList).elim .bad fun a => (allA N cap.toList).elim .bad fun b => .mkf f a b | _ => .bad
  | .makeMap _ none => .mkm
  | .makeSlice t l c => A1 (trA N l) fun a => A1 (trA N c) fun b =>
      match P.underlying t with
      | some (.slice e) => (match P.info? e with | some i => (match i.zero with | some z => .mks e i.size i.bytes z.cells.toList a b | none => .bad) | none => .bad)
      | _ => .bad
  | .build t ps =>
      match P.underlying t with
      | some (.struct fs) => (zOf P t).elim .bad fun z => (plA P N (fun i => fs[i]?.bind fun f => (szOf P f.type).map fun n => (f.offset, n)) ps.toList).elim .bad fun l => if fs.all fun f => (szOf P f.type).isSome then .build z l else .bad
      | some (.array _ e) => (zOf P t).elim .bad fun z => (szOf P e).elim .bad fun n => (plA P N (fun i => some (i * n, n)) ps.toList).elim .bad fun l => .build z l
      | _ => .bad
  | .buildSlice t len ps =>
      match P.underlying t with
      | some (.slice e) => (zOf P e).elim .bad fun z => (szOf P e).elim .bad fun n => (plA P N (fun i => some (i * n, n)) ps.toList).elim .bad fun l => if z.length = n ∧ 0 < n ∧ len * n ≤ 16777216 then .bsl e len ((List.replicate len z).flatten) l else .bad
      | _ => .bad
  | .extract x i => A1 (trA N x) fun a => .ext i a
  | .call c => orGen (trCall P N c) (trBlt N c o.type)
  | .lookup t x i ok => A1 (trA N x) fun a => A1 (trA N i) fun b => .gen (.lk t ok) [a, b]
  | .mapUpdate t m k x => A1 (trA N m) fun a => A1 (trA N k) fun b => A1 (trA N x) fun c => .gen (.mup t) [a, b, c]
  | .insert t m k x => A1 (trA N m) fun a => A1 (trA N k) fun b => A1 (trA N x) fun c => .gen (.mup t) [a, b, c]
  | .makeMap t (some r) => A1 (trA N r) fun a => .gen (.mkm t) [a]
  | .range t x => A1 (trA N x) fun a => .gen (.rng t) [a]
  | .next x s => A1 (trA N x) fun a => .gen (.nxt s o.type) [a]
  | .entry x => A1 (trA N x) fun a => .gen .ent [a]
  | .makeInterface t x => A1 (trA N x) fun a => .gen (.mki t) [a]
  | .typeAssert x t u ok => A1 (trA N x) fun a => .gen (.tas t u ok) [a]
  | .mapEntry t m k => A1 (trA N m) fun a => A1 (trA N k) fun b => .gen (.men t) [a, b]
  | .entryStore t m k v => A1 (trA N m) fun a => A1 (trA N k) fun b => A1 (trA N v) fun c => .gen (.est t) [a, b, c]
  | _ => .bad
def ldV (w : World) : Value → Option Value
  | .pointer (some a) => w.cell? a
  | _ => none
def ldsV (w : World) (a : Addr) : Nat → Nat → Option (List Value)
  | _, 0 => some []
  | i, n + 1 => (w.cell? (a.add i)).bind fun v => (ldsV w a (i + 1) n).map (v :: ·)
def ldNV (w : World) (n : Nat) : Value → Option Value
  | .pointer (some a) => (ldsV w a 0 n).map fun l => .agg l.toArray
  | _ => none
def stV (w : World) (n : Nat) : Value → Value → Option World
  | .pointer (some a), v =>
    (blk w a.block).bind fun l =>
      if a.spot = none ∧ (cellsV v).length = n ∧ a.off + n ≤ l.length ∧ (cellsV v).all okCell then some (put w a.block (l.take a.off ++ cellsV v ++ l.drop (a.off + n))) else none
  | _, _ => none
def layA (ρ : Env) (ps : List (Nat × Nat × Arg)) : List (Nat × Nat × Value) := ps.map fun p => (p.1, p.2.1, p.2.2.ev ρ)
def argsV (ρ : Env) (l : List Arg) : List Value := l.map (Arg.ev ρ)
def callP (P : Program) (f : Nat) (args : List Value) (w : World) (k : Value → World → Prop) : Prop :=
  Calls P f args.toArray w fun e w' => ∃ v, e = .returned v ∧ k v w'
def yldP (P : Program) (l : Nat) (args : List Value) (w : World) (k : Value → World → Prop) : Prop :=
  ∃ f tmps assign body, (Instr.yield l args.toArray).run P w = .ok (.round l f tmps assign body) w ∧ RoundIn Fence.wide 0 P l f tmps assign body w fun e w' => ∃ v, e = .returned v ∧ k v w'
def callvP (P : Program) (f : Value) (args : List Value) (w : World) (k : Value → World → Prop) : Prop :=
  match f with
  | .func (.func g) first cap => okFn P g = true ∧ callP P g (first.toList ++ args ++ cap.toList) w k
  | .func (.yield l) first cap => first = #[] ∧ cap = #[] ∧ yldP P l args w k
  | _ => False
def appP (P : Program) (t u : TypeId) (x y : Value) (w : World) (k : Value → World → Prop) : Prop := ∃ v w', (Builtin.append_ #[t, u] 0 #[x, y]).run P w = .ok v w' ∧ k v w'
def cpyP (P : Program) (t u : TypeId) (x y : Value) (w : World) (k : Value → World → Prop) : Prop := ∃ v w', (Builtin.copy_ #[t, u] 0 #[x, y]).run P w = .ok v w' ∧ k v w'
def genP (P : Program) (kd : LK) (vs : List Value) (w : World) (k : Value → World → Prop) : Prop := ∃ v w', (lkSem kd vs).run P w = .ok v w' ∧ k v w'
def mksP (e : TypeId) (sz bytes : Nat) (z : List Value) (l c : Value) (w : World) (k : Value → World → Prop) : Prop :=
  match l, c with
  | .int _ a, .int _ b => 0 ≤ a ∧ a ≤ b ∧ b ≤ 9223372036854775807 ∧ bytes * b ≤ 281474976710656 ∧ z.length = sz ∧ 0 < sz ∧ k (.slice (some ⟨size w, 0, none⟩) a.toNat b.toNat) (new w ((List.replicate b.toNat z).flatten) e)
  | _, _ => False
def cvBSP (w : World) (x : Value) (k : Value → Prop) : Prop :=
  match x with
  | .slice none _ _ => k (.string (bs []))
  | .slice (some a) n _ => ∃ l : List UInt8, l.length = n ∧ ldsV w a 0 n = some (l.map fun b => .int .u8 b.toNat) ∧ k (.string (bs l))
  | _ => False
def vcI (P : Program) (i : Ins) (ρ : Env) (w : World) (k : Value → World → Prop) : Prop :=
  match i with
  | .mov x => k (x.ev ρ) w
  | .pick c a b => seqO (asB (c.ev ρ)) fun t => k (if t then a.ev ρ else b.ev ρ) w
  | .bin op x y => seqO (binV op (x.ev ρ) (y.ev ρ)) fun v => k v w
  | .sft op x y => seqO (sftV op (x.ev ρ) (y.ev ρ)) fun v => k v w
  | .eq kd neg x y => seqO (eqV kd (x.ev ρ) (y.ev ρ)) fun b => k (.bool (b != neg)) w
  | .eqi neg x y => seqO (eqI (x.ev ρ) (y.ev ρ)) fun b => k (.bool (b != neg)) w
  | .un op x => seqO (unV op (x.ev ρ)) fun v => k v w
  | .load x => seqO (ldV w (x.ev ρ)) fun v => k v w
  | .loadN n x => seqO (ldNV w n (x.ev ρ)) fun v => k v w
  | .store n x y => seqO (stV w n (x.ev ρ) (y.ev ρ)) fun w' => k undef w'
  | .alloc t z => k (.pointer (some ⟨size w, 0, none⟩)) (new w z t)
  | .box t x => k (.pointer (some ⟨size w, 0, none⟩)) (new w (cellsV (x.ev ρ)) t)
  | .build z ps => seqO (lay z (layA ρ ps)) fun l => k (.agg l.toArray) w
  | .bsl e n z ps => seqO (lay z (layA ρ ps)) fun l => k (.slice (some ⟨size w, 0, none⟩) n n) (new w l e)
  | .nck x => seqO (nckV (x.ev ρ)) fun v => k v w
  | .fld off x => seqO (fldV off (x.ev ρ)) fun v => k v w
  | .get1 off x => seqO (get1V off (x.ev ρ)) fun v => k v w
  | .getN off n x => seqO (getNV off n (x.ev ρ)) fun v => k v w
  | .idx sz x i => seqO (idxV sz (x.ev ρ) (i.ev ρ)) fun v => k v w
  | .idxA len sz x i => seqO (idxAV len sz (x.ev ρ) (i.ev ρ)) fun v => k v w
  | .ixS x i => seqO (ixSV (x.ev ρ) (i.ev ρ)) fun v => k v w
  | .subS x lo hi => seqO (subSV (x.ev ρ) (lo.map (Arg.ev ρ)) (hi.map (Arg.ev ρ))) fun v => k v w
  | .subL sz x lo hi => seqO (subLV sz (x.ev ρ) (lo.map (Arg.ev ρ)) (hi.map (Arg.ev ρ))) fun v => k v w
  | .subA len sz x lo hi => seqO (subAV len sz (x.ev ρ) (lo.map (Arg.ev ρ)) (hi.map (Arg.ev ρ))) fun v => k v w
  | .cvi kd x => seqO (cviV kd (x.ev ρ)) fun v => k v w
  | .cvBS x => cvBSP w (x.ev ρ) fun v => k v w
  | .cvSS x => seqO (cssV (x.ev ρ)) fun v => k v w
  | .mkf f a b => k (.func (.func f) (argsV ρ a).toArray (argsV ρ b).toArray) w
  | .mks e sz bytes z l c => mksP e sz bytes z (l.ev ρ) (c.ev ρ) w k
  | .mkm => k (.map (some (size w))) (w.alloc (.map #[] 0))
  | .ext i x => seqO (extV i (x.ev ρ)) fun v => k v w
  | .len s x => seqO (lenV s (x.ev ρ)) fun v => k v w
  | .min2 x y => seqO (min2V (x.ev ρ) (y.ev ρ)) fun v => k v w
  | .max2 x y => seqO (max2V (x.ev ρ) (y.ev ρ)) fun v => k v w
  | .call f as => callP P f (argsV ρ as) w k
  | .callv x as => callvP P (x.ev ρ) (argsV ρ as) w k
  | .app t u x y => appP P t u (x.ev ρ) (y.ev ρ) w k
  | .cpy t u x y => cpyP P t u (x.ev ρ) (y.ev ρ) w k
  | .chk x d => ldV w (x.ev ρ) = some (ρ d) ∧ k undef w
  | .chkN n x d => ldNV w n (x.ev ρ) = some (ρ d) ∧ k undef w
  | .gen kd xs => genP P kd (argsV ρ xs) w k
  | .bad => False
def Goes (P : Program) (w : World) (k : Value → World → Prop) : Result Next → Prop
  | .ok (.value v) w' => k v w'
  | .ok .skip w' => k undef w'
  | .ok (.enter f args) w' => w' = w ∧ Calls P f args w fun e w'' => ∃ v, e = .returned v ∧ k v w''
  | .ok (.round l f tmps assign body) w' => w' = w ∧ RoundIn Fence.wide 0 P l f tmps assign body w fun e w'' => ∃ v, e = .returned v ∧ k v w''
  | _ => False
def fz (ro : Option Nat) : Fence := { Fence.wide with round := ro }
theorem fz_depth {ro : Option Nat} {n : Nat} (h : (fz ro).depth.isSome = true) : 1 ≤ n := by
  have h' : false = true := h
  cases h'
theorem fz_calls {P : Program} {ro : Option Nat} {n : Nat} {f : FuncId} {args : Array Value} {w : World} {R : Ending → World → Prop} (h : Calls P f args w R) : CallsIn (fz ro) n P f args w R := by
  have h1 : CallsIn Fence.wide n P f args w R := callsIn_wide.2 h
  cases ro with
  | none => exact h1
  | some l => exact h1.inRound l
theorem fz_round {P : Program} {ro : Option Nat} {n l : Nat} {f : FuncId} {tmps : Array Value} {assign body : Code} {w : World} {R : Ending → World → Prop} (h : RoundIn Fence.wide 0 P l f tmps assign body w R) : RoundIn (fz ro) n P l f tmps assign body w R :=
  ⟨trivial, fun c cs _ => h.2 c cs (room_wide _)⟩
theorem Goes.wp {P : Program} {ro : Option Nat} {o : Oper} {a : Act} {w : World} {next : Act → World → Prop} {Q : Exit → Act → World → Prop} (hd : ∀ c, o.op ≠ .defer c)
    (h : Goes P w (fun v w' => next (a.put o.dst v) w') ((execOp a.eval o).run P w)) : o.wpIn (fz ro) 0 P a w next Q := by
  refine ⟨fun _ _ => trivial, ?_⟩
  have hs : Oper.semAt (fz ro).round a.eval o = execOp a.eval o := by
    cases ro with
    | none => rfl
    | some l => exact Oper.semAt_some l a.eval o hd
  rw [hs]
  generalize (execOp a.eval o).run P w = r at h ⊢
  cases r with
  | halt x w' => exact h.elim
  | ok n w' =>
    cases n with
    | value v => exact h
    | skip => exact h
    | enter f args =>
      obtain ⟨rfl, h⟩ := h
      refine ⟨fun h => by simp [fz, Fence.wide] at h, fz_calls (Calls.mono h ?_)⟩
      rintro e w'' ⟨v, rfl, hk⟩
      exact hk
    | round l f tmps assign body =>
      obtain ⟨rfl, h⟩ := h
      refine ⟨fun h => by simp [fz, Fence.wide] at h, fz_round (RoundIn.mono h ?_)⟩
      rintro e w'' ⟨v, rfl, hk⟩
      exact hk
    | _ => exact h.elim
theorem orGen_ok {P : Program} {i g : Ins} {ρ : Env} {w : World} {k : Value → World → Prop} (h : vcI P (orGen i g) ρ w k) : vcI P i ρ w k ∨ vcI P g ρ w k := by
  unfold orGen at h
  split at h
  · exact .inr h
  · exact .inl h
theorem A1_ok {P : Program} {x : Option Arg} {f : Arg → Ins} {ρ : Env} {w : World} {k : Value → World → Prop} (h : vcI P (A1 x f) ρ w k) : ∃ a, x = some a ∧ vcI P (f a) ρ w k := by
  cases x with
  | none => exact h.elim
  | some a => exact ⟨a, rfl, h⟩
theorem elim_ok {α : Type} {P : Program} {x : Option α} {f : α → Ins} {ρ : Env} {w : World} {k : Value → World → Prop} (h : vcI P (x.elim .bad f) ρ w k) : ∃ a, x = some a ∧ vcI P (f a) ρ w k := by
  cases x with
  | none => exact h.elim
  | some a => exact ⟨a, rfl, h⟩
theorem allA_ev {N : Nat} {ρ : Env} : ∀ {l : List Operand} {as : List Arg}, allA N l = some as → l.map (act N ρ).eval = argsV ρ as
  | [], as, h => by injection h with h; subst h; rfl
  | x :: r, as, h => by
    simp only [allA, Option.bind_eq_some_iff, Option.map_eq_some_iff] at h
    obtain ⟨a, ha, b, hb, rfl⟩ := h
    simp only [argsV, List.map_cons, trA_ev ha]
    congr 1
    exact allA_ev hb
theorem optA_ev {N : Nat} {ρ : Env} {x : Option Operand} {a : Option Arg} (h : optA N x = some a) : x.map (act N ρ).eval = a.map (Arg.ev ρ) := by
  cases x with
  | none => injection h with h; subst h; rfl
  | some x =>
    simp only [optA, Option.map_eq_some_iff] at h
    obtain ⟨b, hb, rfl⟩ := h
    simp [trA_ev hb]
section
variable {P : Program} {N : Nat} {ρ : Env} {w : World} {k : Value → World → Prop}
theorem szOf_run {t : TypeId} {n : Nat} (h : szOf P t = some n) (w : World) : (sizeOf t).run P w = .ok n w := by
  unfold szOf at h
  cases hq : P.info? t with
  | none => simp [hq] at h
  | some i =>
    have : i.size = n := by simpa [hq] using h
    simp [sizeOf, typeInfo, hq, this]
theorem isAgg_run {t : TypeId} {d : TypeDesc} (h : P.underlying t = some d) (w : World) : (isAgg t).run P w = .ok (isAggB d) w := by
  unfold isAgg
  rw [Sem.run_bind, run_underlying h w]
  cases d <;> rfl
theorem lds_run (a : Addr) : ∀ (n i : Nat) (l : List Value) (acc : Array Value), ldsV w a i n = some l → (loadCellsFrom a i n acc).run P w = .ok (acc ++ l.toArray) w
  | 0, i, l, acc, h => by injection h with h; subst h; simp [loadCellsFrom]
  | n + 1, i, l, acc, h => by
    simp only [ldsV, Option.bind_eq_some_iff, Option.map_eq_some_iff] at h
    obtain ⟨v, hv, r, hr, rfl⟩ := h
    have ih := lds_run a n (i + 1) r (acc.push v) hr
    simp only [loadCellsFrom, Sem.run_bind]
    have : (load (a.add i)).run P w = .ok v w := by simp [load, Sem.run, hv]
    rw [this]
    simp only [Result.andThen_ok, ih]
    simp
theorem okCell_eq (v : Value) : v.oneCell' = okCell v := by cases v <;> rfl
theorem cells_eq (v : Value) : v.cells.toList = cellsV v := by cases v <;> rfl
theorem addr_eta (a : Addr) (h : a.spot = none) : (⟨a.block, a.off, none⟩ : Addr) = a := by cases a; simp_all
theorem storeVar_ok {n : Nat} {t : TypeId} {a : Addr} {v : Value} {w' : World} (hs : szOf P t = some n) (h : stV w n (.pointer (some a)) v = some w') : (storeVar t a v).run P w = .ok () w' := by
  simp only [stV, Option.bind_eq_some_iff] at h
  obtain ⟨l, hl, h⟩ := h
  split at h
  · rename_i hc
    obtain ⟨h1, h2, h3, h4⟩ := hc
    injection h with h; subst h
    obtain ⟨ty, hty⟩ := blk_some hl
    have hst := run_storeCells_at P a.block a.off ty (cellsV v) 0 l.toArray w hty (by simp; omega) (by
      intro x hx
      rw [okCell_eq]
      exact List.all_eq_true.1 h4 x hx)
    rw [addr_eta a h1] at hst
    have hsz : v.cells.size = n := by rw [← Array.length_toList, cells_eq]; exact h2
    simp only [Nat.add_zero] at hst
    simp only [storeVar, Sem.run_bind, szOf_run hs w, Result.andThen_ok, hsz, ne_eq, not_true, if_false, cells_eq]
    rw [hst, put_row hl, h2]
  · cases h
end
end Go.Proofs.YtdlimikcgdgfpaaGreatDoor.E
namespace Go.Proofs.YtdlimikcgdgfpaaGreatDoor.E
open Go.RowKit
section
variable {P : Program} {N : Nat} {ρ : Env} {w : World} {k : Value → World → Prop}
theorem run_eqGuard_plain (op : BinOp) (t : TypeId) (x y : Operand) (a b : Value) (h : (match a, b with | .nilIface, .nilIface => false | .agg _, .agg _ => false | _, _ => true) = true) : (eqGuard op t x y a b).run P w = .ok () w := by
  unfold eqGuard
  cases a <;> cases b <;> first | (simp at h; done) | (split <;> rfl)
theorem goes_bin {op : BinOp} {t : TypeId} {x y : Operand} {a b : Value} {v : Value} (h : binV op a b = some v) (hop : op ≠ .shl ∧ op ≠ .shr) :
    (do eqGuard op t x y a b; binOp op t a b : Sem Value).run P w = .ok v w := by
  have hg : (eqGuard op t x y a b).run P w = .ok () w := run_eqGuard_plain op t x y a b (by cases a <;> cases b <;> first | rfl | simp [binV] at h)
  rw [Sem.run_bind, hg, Result.andThen_ok]
  cases a <;> cases b <;> simp only [binV] at h <;> try (cases h; done)
  case int.int ka a kb b =>
    split at h
    · rename_i hk; subst hk
      cases op <;> simp [intV] at h <;> simp_all [binOp, Op.intArith, Op.intDiv, Op.intBits, Op.intCmp]
      all_goals
        subst h
        first | rfl | (congr 1; rw [Bool.eq_iff_iff]; simp; done) | skip
    · cases h
  case string.string s u =>
    cases op <;> simp [strV] at h <;> simp_all [binOp, Op.stringOp, ByteArray.toList_eq]
    case add =>
      obtain ⟨h1, rfl⟩ := h
      rw [if_neg (by omega)]
      congr 2
    all_goals
      have e : (s.data == u.data) = decide (s.data = u.data) := by rw [Bool.eq_iff_iff]; simp
      rw [e]
      exact h
theorem sft_run {op : BinOp} {t : TypeId} {x y : Operand} {a b : Value} {v : Value} (h : sftV op a b = some v) (hop : op = .shl ∨ op = .shr) :
    (do eqGuard op t x y a b; binOp op t a b : Sem Value).run P w = .ok v w := by
  have hg : (eqGuard op t x y a b).run P w = .ok () w := run_eqGuard_plain op t x y a b (by cases a <;> cases b <;> first | rfl | simp [sftV] at h)
  rw [Sem.run_bind, hg, Result.andThen_ok]
  cases a <;> cases b <;> simp only [sftV] at h <;> try (cases h; done)
  case int.int ka a kb b =>
    unfold shV at h
    split at h
    · cases h
    · rename_i hb
      rcases hop with rfl | rfl <;> simp [binOp, Op.shift, hb] <;> simpa using h
def eqTy (P : Program) (t : TypeId) (kd : Nat) : Bool :=
  match P.underlying t, kd with
  | some (.pointer _), 0 | some (.slice _), 1 | some (.map _ _), 2 | some (.func _ _ _), 3 | some .bool, 4 => true
  | _, _ => false
theorem eqIn_run {t : TypeId} {a b : Value} {r : Bool} {kd : Nat} (h : eqV kd a b = some r) (d : Nat) (ht : eqTy P t kd = true) :
    (Op.equalIn (d + 1) t a b).run P w = .ok r w := by
  unfold eqTy at ht
  unfold eqV at h
  unfold Op.equalIn
  split at h <;> first | (cases h; done) | skip
  all_goals
    split at ht <;> simp at * <;> try (cases ht; done)
    rename_i hu _
    first
      | (simp [run_underlying hu]; exact h)
      | (simp [run_underlying hu, h])
theorem eq_run {op : BinOp} {t : TypeId} {x y : Operand} {a b : Value} {r : Bool} {kd : Nat} {neg : Bool} (h : eqV kd a b = some r) (ht : eqTy P t kd = true) (hop : op = if neg then .neq else .eql) :
    (do eqGuard op t x y a b; binOp op t a b : Sem Value).run P w = .ok (.bool (r != neg)) w := by
  have hg : (eqGuard op t x y a b).run P w = .ok () w := run_eqGuard_plain op t x y a b (by
    unfold eqV at h
    split at h <;> first | rfl | (cases h; done))
  have he := eqIn_run (w := w) h 9999 ht
  rw [Sem.run_bind, hg, Result.andThen_ok]
  have hq : (Op.equal t a b).run P w = .ok r w := he
  have hb : ∀ op', (op' = .eql ∨ op' = .neq) → binOp op' t a b = (if op' = .eql then (do pure (.bool (← Op.equal t a b))) else (do pure (.bool (!(← Op.equal t a b)))) : Sem Value) := by
    intro op' hop'
    unfold eqV at h
    split at h <;> first | (cases h; done) | (rcases hop' with rfl | rfl <;> rfl)
  cases neg
  · simp at hop; subst hop
    rw [hb _ (.inl rfl)]
    simp [hq]
  · simp at hop; subst hop
    rw [hb _ (.inr rfl)]
    simp [hq]
theorem eqi_run {op : BinOp} {t : TypeId} {x y : Operand} {a b : Value} {r : Bool} {neg : Bool} (h : eqI a b = some r) (ht : (match P.underlying t with | some (.interface _) => true | _ => false) = true) (hc : (isC x || isC y) = true) (hop : op = if neg then .neq else .eql) :
    (do eqGuard op t x y a b; binOp op t a b : Sem Value).run P w = .ok (.bool (r != neg)) w := by
  have hg : (eqGuard op t x y a b).run P w = .ok () w := by
    unfold eqGuard
    unfold eqI at h
    split at h <;> first | (cases h; done) | (split <;> first | rfl | (cases x <;> cases y <;> first | rfl | simp [isC] at hc))
  have he : (Op.equal t a b).run P w = .ok r w := by
    show (Op.equalIn (9999 + 1) t a b).run P w = .ok r w
    unfold Op.equalIn
    split at ht
    · rename_i hu
      unfold eqI at h
      split at h <;> first | (cases h; done) | (injection h with h; subst h; simp [run_underlying hu])
    · cases ht
  rw [Sem.run_bind, hg, Result.andThen_ok]
  have hb : ∀ op', (op' = .eql ∨ op' = .neq) → binOp op' t a b = (if op' = .eql then (do pure (.bool (← Op.equal t a b))) else (do pure (.bool (!(← Op.equal t a b)))) : Sem Value) := by
    intro op' hop'
    unfold eqI at h
    split at h <;> first | (cases h; done) | (rcases hop' with rfl | rfl <;> rfl)
  cases neg
  · simp at hop; subst hop
    rw [hb _ (.inl rfl)]
    simp [he]
  · simp at hop; subst hop
    rw [hb _ (.inr rfl)]
    simp [he]
theorem bin_ok {op : BinOp} {t : TypeId} {x y : Operand} {a b : Arg} (h : vcI P (trBin P op t (isC x || isC y) a b) ρ w k) :
    ∃ v, (do eqGuard op t x y (a.ev ρ) (b.ev ρ); binOp op t (a.ev ρ) (b.ev ρ) : Sem Value).run P w = .ok v w ∧ k v w := by
  have hEq : ∀ neg, op = (if neg then .neq else .eql) → vcI P (trEq P neg t (isC x || isC y) a b) ρ w k → ∃ v, (do eqGuard op t x y (a.ev ρ) (b.ev ρ); binOp op t (a.ev ρ) (b.ev ρ) : Sem Value).run P w = .ok v w ∧ k v w := by
    intro neg hop h
    have hshl : op ≠ .shl ∧ op ≠ .shr := by cases neg <;> simp at hop <;> subst hop <;> simp
    unfold trEq at h
    split at h
    case h_6 hu =>
      split at h
      · rename_i hc
        obtain ⟨r, hr, hk⟩ := seqO_ex h
        exact ⟨_, eqi_run hr (by rw [hu]) hc hop, hk⟩
      · exact h.elim
    case h_7 =>
      obtain ⟨r, hr, hk⟩ := seqO_ex h
      rw [← hop] at hr
      exact ⟨_, goes_bin hr hshl, hk⟩
    case h_8 =>
      obtain ⟨r, hr, hk⟩ := seqO_ex h
      rw [← hop] at hr
      exact ⟨_, goes_bin hr hshl, hk⟩
    case h_9 => exact h.elim
    all_goals
      rename_i hu
      obtain ⟨r, hr, hk⟩ := seqO_ex h
      exact ⟨_, eq_run hr (by simp [eqTy, hu]) hop, hk⟩
  unfold trBin at h
  split at h
  · exact hEq false rfl h
  · exact hEq true rfl h
  · obtain ⟨v, hv, hk⟩ := seqO_ex h
    exact ⟨v, sft_run hv (.inl rfl), hk⟩
  · obtain ⟨v, hv, hk⟩ := seqO_ex h
    exact ⟨v, sft_run hv (.inr rfl), hk⟩
  · rename_i h1 h2
    obtain ⟨v, hv, hk⟩ := seqO_ex h
    exact ⟨v, goes_bin hv ⟨by simpa using h1, by simpa using h2⟩, hk⟩
end
end Go.Proofs.YtdlimikcgdgfpaaGreatDoor.E
namespace Go.Proofs.YtdlimikcgdgfpaaGreatDoor.E
open Go.RowKit
section
variable {P : Program} {N : Nat} {ρ : Env} {w : World} {k : Value → World → Prop}
theorem goes_value {s : Sem Value} (h : ∃ v w', s.run P w = .ok v w' ∧ k v w') : Goes P w k ((do pure (.value (← s)) : Sem Next).run P w) := by
  obtain ⟨v, w', h, hk⟩ := h
  simp only [Sem.run_bind, h, Result.andThen_ok, Sem.run_pure]
  exact hk
theorem goes_unit {s : Sem Unit} (h : ∃ w', s.run P w = .ok () w' ∧ k undef w') : Goes P w k ((do s; pure .skip : Sem Next).run P w) := by
  obtain ⟨w', h, hk⟩ := h
  simp only [Sem.run_bind, h, Result.andThen_ok, Sem.run_pure]
  exact hk
theorem un_run {op : UnOp} {x v : Value} (h : unV op x = some v) : (Op.unary op x).run P w = .ok v w := by
  unfold unV at h
  split at h <;> first | (cases h; done) | (injection h with h; subst h; rfl)
theorem load_ok {t : TypeId} {a : Arg} (h : vcI P (trLoad P t a) ρ w k) : ∃ v w', (Instr.loadAt t (a.ev ρ)).run P w = .ok v w' ∧ k v w' := by
  unfold trLoad at h
  split at h
  · rename_i d hd
    split at h
    · rename_i hag
      split at h
      · rename_i n hn
        obtain ⟨v, hv, hk⟩ := seqO_ex h
        refine ⟨v, w, ?_, hk⟩
        unfold ldNV at hv
        split at hv
        · rename_i ad had
          rw [Option.map_eq_some_iff] at hv
          obtain ⟨l, hl, rfl⟩ := hv
          have h1 := lds_run (P := P) ad n 0 l #[] hl
          simp only [had, Instr.loadAt, Instr.sureAddr, Sem.run_bind, Sem.run_pure, Result.andThen_ok, loadVar, isAgg_run hd, hag, if_true, szOf_run hn, loadCells, h1]
          simp
        · cases hv
      · exact h.elim
    · rename_i hag
      obtain ⟨v, hv, hk⟩ := seqO_ex h
      refine ⟨v, w, ?_, hk⟩
      unfold ldV at hv
      split at hv
      · rename_i ad had
        simp only [had, Instr.loadAt, Instr.sureAddr, Sem.run_bind, Sem.run_pure, Result.andThen_ok, loadVar, isAgg_run hd, hag, if_false, Bool.false_eq_true]
        simp [load, Sem.run, hv]
      · cases hv
  · exact h.elim
theorem store_ok {t : TypeId} {n : Nat} {a b : Arg} (hs : szOf P t = some n) (h : vcI P (.store n a b) ρ w k) : ∃ w', (Instr.storeAt t (a.ev ρ) (b.ev ρ)).run P w = .ok () w' ∧ k undef w' := by
  obtain ⟨w', hw, hk⟩ := seqO_ex h
  refine ⟨w', ?_, hk⟩
  unfold stV at hw
  split at hw
  · rename_i ad had
    have := storeVar_ok (P := P) (w := w) (a := ad) (v := b.ev ρ) (w' := w') hs hw
    simp only [had, Instr.storeAt, Instr.sureAddr, Sem.run_bind, Sem.run_pure, Result.andThen_ok, this]
  · cases hw
theorem fieldPlace_run {fd : Field} {n : Nat} (hn : szOf P fd.type = some (n + 1)) (ad : Addr) : (fieldPlace ad fd).run P w = .ok (ad.add fd.offset) w := by
  simp only [fieldPlace, Sem.run_bind, szOf_run hn, Result.andThen_ok]
  simp
theorem fOf_some {s : TypeId} {f : Nat} {fd : Field} (h : fOf P s f = some fd) : ∃ fs, P.underlying s = some (.struct fs) ∧ fs[f]? = some fd := by
  unfold fOf at h
  split at h
  · rename_i fs hfs; exact ⟨fs, hfs, h⟩
  · cases h
theorem fld_ok {s : TypeId} {f n : Nat} {fd : Field} {x v : Value} (hf : fOf P s f = some fd) (hn : szOf P fd.type = some (n + 1)) (h : fldV fd.offset x = some v) : (Instr.fieldAt s x f).run P w = .ok v w := by
  obtain ⟨fs, h1, h2⟩ := fOf_some hf
  unfold fldV at h
  split at h
  · injection h with h; subst h
    simp [Instr.fieldAt, run_underlying h1, h2, Instr.sureAddr, fieldPlace_run hn]
  · cases h
theorem part1_run {t : TypeId} {d : TypeDesc} {cs : Array Value} {off : Nat} {v : Value} (hd : P.underlying t = some d) (hag : isAggB d = false) (h : cs.toList[off]? = some v) : (part t cs off).run P w = .ok v w := by
  have h' : cs[off]? = some v := by simpa using h
  simp only [part, Sem.run_bind, isAgg_run hd, Result.andThen_ok, hag, h']
  rfl
theorem partN_run {t : TypeId} {d : TypeDesc} {cs : Array Value} {off n : Nat} (hd : P.underlying t = some d) (hag : isAggB d = true) (hn : szOf P t = some n) : (part t cs off).run P w = .ok (.agg ((cs.toList.drop off).take n).toArray) w := by
  simp only [part, Sem.run_bind, isAgg_run hd, Result.andThen_ok, hag, if_true, szOf_run hn]
  have e : cs.extract off (off + n) = ((cs.toList.drop off).take n).toArray := by
    rw [← Array.toList_inj]
    simp [Array.toList_extract, List.extract_eq_take_drop]
  simp only [Sem.run_pure, e]
theorem idx_ok {t e : TypeId} {n : Nat} {x i v : Value} (ht : P.underlying t = some (.slice e)) (hn : szOf P e = some n) (h : idxV n x i = some v) : (Instr.indexAt t x i).run P w = .ok v w := by
  unfold idxV at h
  split at h
  · split at h
    · rename_i hc
      injection h with h; subst h
      simp [Instr.indexAt, asIntOf, run_underlying ht, szOf_run hn, hc]
    · cases h
  · cases h
theorem idxA_ok {t e : TypeId} {len n : Nat} {x i v : Value} (ht : P.underlying t = some (.array len e)) (hn : szOf P e = some n) (h : idxAV len n x i = some v) : (Instr.indexAt t x i).run P w = .ok v w := by
  unfold idxAV at h
  split at h
  · split at h
    · rename_i hc
      injection h with h; subst h
      simp [Instr.indexAt, asIntOf, run_underlying ht, szOf_run hn, hc, Instr.sureAddr]
    · cases h
  · cases h
theorem ixS_ok {t : TypeId} {x i v : Value} (ht : P.underlying t = some .string) (h : ixSV x i = some v) : (Instr.index t x i).run P w = .ok v w := by
  unfold ixSV at h
  split at h
  · rename_i s kk i
    unfold strAt at h
    split at h
    · rename_i hc
      rw [Option.map_eq_some_iff] at h
      obtain ⟨b, hb, rfl⟩ := h
      have hb' : s[i.toNat]? = some b := by
        have := List.getElem?_eq_some_iff.1 hb
        obtain ⟨h1, h2⟩ := this
        have h3 : i.toNat < s.size := by
          show i.toNat < s.data.size
          simpa using h1
        rw [getElem?_pos s i.toNat h3]
        congr 1
      simp [Instr.index, asIntOf, run_underlying ht, hc, hb']
    · cases h
  · cases h
theorem bound_run {x : Value} {y d : Nat} {i : Int} {code : BoundsCode} (h : bndV d (some x) = some i) (hi : 0 ≤ i ∧ i ≤ y) : (Instr.sliceBound x y code).run P w = .ok i.toNat w := by
  cases x <;> simp [bndV] at h
  subst h
  simp [Instr.sliceBound, asIntOf, hi]
theorem bounds_run {isS : Bool} {n c : Nat} {lo hi : Option Value} {a b : Int} (h1 : bndV 0 lo = some a) (h2 : bndV n hi = some b) (hc : 0 ≤ a ∧ a ≤ b ∧ b ≤ c) :
    (Instr.sliceBounds isS n c lo hi none).run P w = .ok (a.toNat, b.toNat, c) w := by
  unfold Instr.sliceBounds
  cases hi with
  | none =>
    have hb : b = n := by simpa [bndV] using h2.symm
    subst hb
    cases lo with
    | none =>
      have ha : a = 0 := by simpa [bndV] using h1.symm
      subst ha
      simp
    | some x =>
      have := bound_run (P := P) (w := w) (code := .sliceB) (y := n) h1 ⟨hc.1, hc.2.1⟩
      simp [this]
  | some y =>
    have hb := fun code => bound_run (P := P) (w := w) (code := code) (y := c) h2 ⟨by omega, hc.2.2⟩
    cases lo with
    | none =>
      have ha : a = 0 := by simpa [bndV] using h1.symm
      subst ha
      simp [hb]
    | some x =>
      have := bound_run (P := P) (w := w) (code := .sliceB) (y := b.toNat) h1 ⟨hc.1, by omega⟩
      simp [hb, this]
theorem cut_run {sz : Nat} {a : Option Addr} {c : Nat} {lo hi : Int} {v : Value} (h : cutV sz a c lo hi = some v) :
    0 ≤ lo ∧ lo ≤ hi ∧ hi ≤ c ∧ v = .slice (if c = lo.toNat then a else a.map (·.add (lo.toNat * sz))) (hi.toNat - lo.toNat) (c - lo.toNat) := by
  unfold cutV at h
  split at h
  · rename_i hc
    injection h with h
    exact ⟨hc.1, hc.2.1, hc.2.2, h.symm⟩
  · cases h
theorem slice_ok {t : TypeId} {x : Arg} {lo hi : Option Arg} (h : vcI P (trSlice P t x lo hi) ρ w k) :
    ∃ v w', (Instr.sliceAt t (x.ev ρ) (lo.map (Arg.ev ρ)) (hi.map (Arg.ev ρ)) none).run P w = .ok v w' ∧ k v w' := by
  unfold trSlice at h
  split at h
  · rename_i hu
    obtain ⟨v, hv, hk⟩ := seqO_ex h
    refine ⟨v, w, ?_, hk⟩
    unfold subSV at hv
    split at hv
    · rename_i s hx
      simp only [Option.bind_eq_some_iff] at hv
      obtain ⟨a, ha, b, hb, hv⟩ := hv
      unfold subV at hv
      split at hv
      · rename_i hc
        injection hv with hv; subst hv
        have hl : s.data.toList.length = s.size := by simp [ByteArray.size_data]
        have hbr := bounds_run (P := P) (w := w) (isS := false) (c := s.size) ha hb ⟨hc.1, hc.2.1, by omega⟩
        simp only [Instr.sliceAt, Instr.slice, Sem.run_bind, run_underlying hu, Result.andThen_ok, hx]
        have e : bs ((s.data.toList.drop a.toNat).take (b.toNat - a.toNat)) = s.extract a.toNat b.toNat := by
          apply ByteArray.ext
          simp [bs, ByteArray.data_extract, ← Array.toList_inj, Array.toList_extract, List.extract_eq_take_drop]
        simp [e, hbr]
      · cases hv
    · cases hv
  · rename_i e hu
    split at h
    · rename_i n hn
      obtain ⟨v, hv, hk⟩ := seqO_ex h
      refine ⟨v, w, ?_, hk⟩
      unfold subLV at hv
      split at hv
      · rename_i a m c hx
        simp only [Option.bind_eq_some_iff] at hv
        obtain ⟨p, hp, q, hq, hv⟩ := hv
        obtain ⟨c1, c2, c3, rfl⟩ := cut_run hv
        have hbr := bounds_run (P := P) (w := w) (isS := true) (c := c) hp hq ⟨c1, c2, c3⟩
        simp only [Instr.sliceAt, Instr.slice, Sem.run_bind, run_underlying hu, Result.andThen_ok, hx, hbr, szOf_run hn]
        rfl
      · cases hv
    · exact h.elim
  · rename_i len e hu
    split at h
    · rename_i n hn
      obtain ⟨v, hv, hk⟩ := seqO_ex h
      refine ⟨v, w, ?_, hk⟩
      unfold subAV at hv
      split at hv
      · rename_i a hx
        simp only [Option.bind_eq_some_iff] at hv
        obtain ⟨p, hp, q, hq, hv⟩ := hv
        obtain ⟨c1, c2, c3, rfl⟩ := cut_run hv
        have hbr := bounds_run (P := P) (w := w) (isS := false) (c := len) hp hq ⟨c1, c2, c3⟩
        simp only [Instr.sliceAt, Sem.run_bind, run_underlying hu, Result.andThen_ok, hx, hbr, szOf_run hn, Instr.sureAddr, Sem.run_pure]
        simp only [Option.map_some]
        by_cases hl : len = p.toNat <;> simp [hl]
      · cases hv
    · exact h.elim
  · exact h.elim
end
end Go.Proofs.YtdlimikcgdgfpaaGreatDoor.E
namespace Go.Proofs.YtdlimikcgdgfpaaGreatDoor.E
open Go.RowKit
section
variable {P : Program} {N : Nat} {ρ : Env} {w : World} {k : Value → World → Prop}
def bstep (c : Value) (s : ByteArray) : Sem (ForInStep ByteArray) :=
  match c with
  | .int .u8 n => pure (ForInStep.yield (s.push (UInt8.ofNat n.toNat)))
  | _ => do
    stuck "bytesToString: byte expected"
    pure (ForInStep.yield s)
theorem forIn_bytes (l : List UInt8) : ∀ (acc : ByteArray), (forIn (m := Sem) (l.map fun b => (Value.int .u8 b.toNat)) acc bstep).run P w = .ok (l.foldl (fun s b => s.push b) acc) w := by
  induction l with
  | nil => intro acc; simp
  | cons b r ih =>
    intro acc
    have hb : UInt8.ofNat ((b.toNat : Int)).toNat = b := by simp
    simp only [List.map_cons, List.forIn_cons, Sem.run_bind, bstep, Sem.run_pure, Result.andThen_ok, List.foldl_cons, hb]
    exact ih (acc.push b)
theorem foldl_push (l : List UInt8) : ∀ (acc : ByteArray), l.foldl (fun s b => s.push b) acc = acc ++ bs l := by
  induction l with
  | nil => intro acc; apply ByteArray.ext; simp [bs]
  | cons b r ih =>
    intro acc
    rw [List.foldl_cons, ih]
    apply ByteArray.ext
    simp [bs, ByteArray.push]
theorem conv_ok {s d : TypeId} {x : Arg} (h : vcI P (trConv P s d x) ρ w k) : ∃ v w', (convert s d (x.ev ρ)).run P w = .ok v w' ∧ k v w' := by
  unfold trConv at h
  split at h
  · rename_i hs hd
    obtain ⟨v, hv, hk⟩ := seqO_ex h
    refine ⟨v, w, ?_, hk⟩
    unfold cviV at hv
    split at hv <;> first | (cases hv; done) | skip
    rename_i hx
    injection hv with hv; subst hv
    simp only [convert, Sem.run_bind, run_underlying hs, run_underlying hd, Result.andThen_ok, hx]
    rfl
  · rename_i hs hd
    obtain ⟨v, hv, hk⟩ := seqO_ex h
    refine ⟨v, w, ?_, hk⟩
    unfold cssV at hv
    split at hv <;> first | (cases hv; done) | skip
    rename_i hx
    injection hv with hv; subst hv
    simp only [convert, Sem.run_bind, run_underlying hs, run_underlying hd, Result.andThen_ok, hx]
    rfl
  · rename_i e hs hd
    split at h
    · rename_i he
      replace h : cvBSP w (x.ev ρ) (fun v => k v w) := h
      unfold cvBSP at h
      split at h
      · rename_i hx
        refine ⟨_, w, ?_, h⟩
        simp only [convert, Sem.run_bind, run_underlying hs, run_underlying hd, run_underlying he, Result.andThen_ok, hx, Conv.bytesToString]
        rfl
      · rename_i a n c hx
        obtain ⟨l, hl, hlds, hk⟩ := h
        refine ⟨_, w, ?_, hk⟩
        have hld : (loadCells a n).run P w = .ok (l.map fun b => Value.int .u8 b.toNat).toArray w := by
          have := lds_run (P := P) a n 0 _ #[] hlds
          simpa [loadCells] using this
        simp only [convert, Sem.run_bind, run_underlying hs, run_underlying hd, run_underlying he, Result.andThen_ok, hx, Conv.bytesToString, hld]
        rw [List.forIn_toArray]
        have hf := forIn_bytes (P := P) (w := w) l ByteArray.empty
        rw [foldl_push] at hf
        have e : ByteArray.empty ++ bs l = bs l := by apply ByteArray.ext; simp [bs]
        rw [e] at hf
        exact congrArg (fun (r : Result ByteArray) => r.andThen fun a w' => Sem.run P (pure (Value.string a)) w') hf
      · exact h.elim
    · exact h.elim
  · exact h.elim
theorem zOf_run {t : TypeId} {z : List Value} (h : zOf P t = some z) : ∃ v, v.cells.toList = z ∧ ∀ w, (zeroValue t).run P w = .ok v w := by
  unfold zOf at h
  simp only [Option.bind_eq_some_iff, Option.map_eq_some_iff] at h
  obtain ⟨i, hi, v, hv, rfl⟩ := h
  exact ⟨v, rfl, fun w => by simp [zeroValue, typeInfo, hi, hv]⟩
theorem new_eq (w : World) (v : Value) (l : List Value) (t : TypeId) (h : v.cells.toList = l) : w.alloc (.cells v.cells t) = new w l t := by
  subst h
  unfold new
  rw [Array.toArray_toList]
theorem alloc_ok {t : TypeId} {z : List Value} (h : zOf P t = some z) : (Instr.alloc t true (.tuple #[])).run P w = .ok (.pointer (some ⟨size w, 0, none⟩)) (new w z t) := by
  obtain ⟨v, hv, hr⟩ := zOf_run h
  rw [← new_eq w v z t hv]
  simp only [Instr.alloc, Sem.run_bind, hr w, Result.andThen_ok]
  rfl
theorem box_ok {t : TypeId} {v : Value} : (Instr.box t v).run P w = .ok (.pointer (some ⟨size w, 0, none⟩)) (new w (cellsV v) t) := by
  rw [← new_eq w v _ t (cells_eq v)]
  rfl
theorem foldl_set (vs : List Value) : ∀ (cells : Array Value) (off j : Nat), off + j + vs.length ≤ cells.size →
    ((vs.zipIdx j).foldl (fun cs (x : Value × Nat) => cs.setIfInBounds (off + x.2) x.1) cells).toList = cells.toList.take (off + j) ++ vs ++ cells.toList.drop (off + j + vs.length) := by
  induction vs with
  | nil => intro cells off j _; simp
  | cons v r ih =>
    intro cells off j h
    simp only [List.zipIdx_cons, List.foldl_cons]
    simp only [List.length_cons] at h
    rw [ih _ off (j + 1) (by simp; omega)]
    have h1 := list_seg_step cells.toList (off + j) v r (by simp; omega)
    simpa [Array.toList_setIfInBounds, Nat.add_assoc] using h1
theorem fill_ok (place : Nat → Option (Nat × Nat)) : ∀ (ps : List (Nat × Operand)) (l : List (Nat × Nat × Arg)) (z : Array Value) (r : List Value),
    plA P N place ps = some l → lay z.toList (layA ρ l) = some r → Instr.fill place z (ps.map fun p => (p.1, (act N ρ).eval p.2)) = some r.toArray
  | [], l, z, r, h, hr => by
    injection h with h; subst h
    simp only [layA, List.map_nil, lay] at hr
    injection hr with hr; subst hr
    simp [Instr.fill]
  | (i, x) :: ps, l, z, r, h, hr => by
    simp only [plA, Option.bind_eq_some_iff, Option.map_eq_some_iff] at h
    obtain ⟨a, ha, ⟨off, n⟩, hp, l', hl', rfl⟩ := h
    simp only [layA, List.map_cons, lay] at hr
    split at hr
    · rename_i hc
      obtain ⟨c1, c2⟩ := hc
      have hsz : ((act N ρ).eval x).cells.size = n := by rw [trA_ev ha, ← Array.length_toList, cells_eq]; exact c1
      have hlen : z.toList.length = z.size := by simp
      simp only [Instr.fill, List.map_cons, hp]
      rw [if_neg (by simp [hsz]; omega)]
      have hf := foldl_set (cellsV (a.ev ρ)) z off 0 (by simp only [Nat.add_zero, c1]; omega)
      simp only [Nat.add_zero, c1] at hf
      refine fill_ok place ps l' _ r hl' ?_
      have e : (((act N ρ).eval x).cells.zipIdx.foldl (fun cs (x : Value × Nat) => cs.setIfInBounds (off + x.2) x.1) z).toList = z.toList.take off ++ cellsV (a.ev ρ) ++ z.toList.drop (off + n) := by
        rw [← hf, trA_ev ha, ← Array.foldl_toList, Array.toList_zipIdx, cells_eq]
      rw [e]
      exact hr
    · cases hr
end
end Go.Proofs.YtdlimikcgdgfpaaGreatDoor.E
namespace Go.Proofs.YtdlimikcgdgfpaaGreatDoor.E
open Go.RowKit
section
variable {P : Program} {N : Nat} {ρ : Env} {w : World} {k : Value → World → Prop}
theorem mapM_places (fs : Array Field) (hall : fs.all (fun f => (szOf P f.type).isSome) = true) :
    (fs.mapM (m := Sem) fun f => do pure (f.offset, ← sizeOf f.type)).run P w = .ok (fs.map fun f => (f.offset, (szOf P f.type).getD 0)) w := by
  obtain ⟨l⟩ := fs
  have key : ∀ (l : List Field), (l.all (fun f => (szOf P f.type).isSome) = true) → (l.mapM (m := Sem) fun f => do pure (f.offset, ← sizeOf f.type)).run P w = .ok (l.map fun f => (f.offset, (szOf P f.type).getD 0)) w := by
    intro l
    induction l with
    | nil => intro _; simp
    | cons f r ih =>
      intro h
      simp only [List.all_cons, Bool.and_eq_true] at h
      obtain ⟨n, hn⟩ := Option.isSome_iff_exists.1 h.1
      have h2 := ih h.2
      simp only [List.mapM_cons, Sem.run_bind, szOf_run hn, Result.andThen_ok, Sem.run_pure]
      rw [h2]
      simp [hn]
  have h := key l (by simpa using hall)
  simp only [List.mapM_toArray, Sem.run_map, h, Result.andThen_ok]
  simp
theorem build_ok {t : TypeId} {fs : Array Field} {z : List Value} {ps : Array (Nat × Operand)} {l : List (Nat × Nat × Arg)} (ht : P.underlying t = some (.struct fs)) (hz : zOf P t = some z)
    (hl : plA P N (fun (i : Nat) => fs[i]?.bind fun (f : Field) => (szOf P f.type).map fun n => (f.offset, n)) ps.toList = some l) (hall : fs.all (fun f => (szOf P f.type).isSome) = true) (h : vcI P (.build z l) ρ w k) :
    ∃ v w', (Instr.build t (ps.map fun (i, x) => (i, (act N ρ).eval x))).run P w = .ok v w' ∧ k v w' := by
  obtain ⟨r, hr, hk⟩ := seqO_ex h
  refine ⟨_, w, ?_, hk⟩
  obtain ⟨v, hv, hrun⟩ := zOf_run hz
  have hfill := fill_ok (P := P) (N := N) (ρ := ρ) (fun (i : Nat) => fs[i]?.bind fun (f : Field) => (szOf P f.type).map fun n => (f.offset, n)) ps.toList l v.cells r hl (by rw [hv]; exact hr)
  have hpl : (fun (i : Nat) => (fs.map fun (f : Field) => (f.offset, (szOf P f.type).getD 0))[i]?) = (fun (i : Nat) => fs[i]?.bind fun (f : Field) => (szOf P f.type).map fun n => (f.offset, n)) := by
    funext i
    rw [Array.getElem?_map]
    cases hi : fs[i]? with
    | none => rfl
    | some f =>
      have := Array.all_eq_true.1 hall i (Array.getElem?_eq_some_iff.1 hi).1
      rw [(Array.getElem?_eq_some_iff.1 hi).2] at this
      obtain ⟨n, hn⟩ := Option.isSome_iff_exists.1 this
      simp [hn]
  have hps : (ps.map fun (x : Nat × Operand) => (x.1, (act N ρ).eval x.2)).toList = ps.toList.map fun p => (p.1, (act N ρ).eval p.2) := by simp
  simp only [Instr.build, Sem.run_bind, hrun w, Result.andThen_ok, run_underlying ht]
  have hm := mapM_places (P := P) (w := w) fs hall
  rw [hm]
  simp only [Result.andThen_ok]
  have hfill' : Instr.fill (fun (i : Nat) => (fs.map fun (f : Field) => (f.offset, (szOf P f.type).getD 0))[i]?) v.cells (ps.map fun (x : Nat × Operand) => (x.1, (act N ρ).eval x.2)).toList = some r.toArray := by
    rw [hpl, hps]; exact hfill
  rw [hfill']
  rfl
theorem buildA_ok {t e : TypeId} {len n : Nat} {z : List Value} {ps : Array (Nat × Operand)} {l : List (Nat × Nat × Arg)} (ht : P.underlying t = some (.array len e)) (hz : zOf P t = some z) (hn : szOf P e = some n)
    (hl : plA P N (fun i => some (i * n, n)) ps.toList = some l) (h : vcI P (.build z l) ρ w k) :
    ∃ v w', (Instr.build t (ps.map fun (i, x) => (i, (act N ρ).eval x))).run P w = .ok v w' ∧ k v w' := by
  obtain ⟨r, hr, hk⟩ := seqO_ex h
  refine ⟨_, w, ?_, hk⟩
  obtain ⟨v, hv, hrun⟩ := zOf_run hz
  have hfill := fill_ok (P := P) (N := N) (ρ := ρ) (fun i => some (i * n, n)) ps.toList l v.cells r hl (by rw [hv]; exact hr)
  have hps : (ps.map fun (x : Nat × Operand) => (x.1, (act N ρ).eval x.2)).toList = ps.toList.map fun p => (p.1, (act N ρ).eval p.2) := by simp
  simp only [Instr.build, Sem.run_bind, hrun w, Result.andThen_ok, run_underlying ht, szOf_run hn]
  rw [← hps] at hfill
  rw [hfill]
  rfl
theorem rep_flat (z : List Value) (n len : Nat) (hn : z.length = n) (hp : 0 < n) : ((Array.range (len * n)).map fun i => z.toArray[i % z.toArray.size]!).toList = (List.replicate len z).flatten := by
  apply List.ext_getElem?
  intro i
  have hl : ((List.replicate len z).flatten).length = len * n := by simp [hn]
  by_cases hi : i < len * n
  · rw [List.getElem?_eq_getElem (by simpa using hi), List.getElem?_eq_getElem (by rw [hl]; exact hi)]
    congr 1
    have hm : i % n < n := Nat.mod_lt _ hp
    have h2 : (List.replicate len z).flatten[i]'(by rw [hl]; exact hi) = z[i % n]'(by omega) := by
      have : ∀ (len i : Nat) (h : i < ((List.replicate len z).flatten).length), (List.replicate len z).flatten[i]'h = z[i % n]'(by have := Nat.mod_lt i hp; omega) := by
        intro len
        induction len with
        | zero => intro i h; simp at h
        | succ m ih =>
          intro i h
          by_cases hin : i < n
          · have h1 : i % n = i := Nat.mod_eq_of_lt hin
            have h3 : (z ++ (List.replicate m z).flatten)[i]'(by simpa [List.replicate_succ] using h) = z[i]'(by omega) := List.getElem_append_left (by omega)
            simp only [List.replicate_succ, List.flatten_cons, h1]
            exact h3
          · have h1 : i % n = (i - n) % n := Nat.mod_eq_sub_mod (by omega)
            have h3 : (z ++ (List.replicate m z).flatten)[i]'(by simpa [List.replicate_succ] using h) = (List.replicate m z).flatten[i - z.length]'(by simp [List.replicate_succ] at h; simp; omega) := List.getElem_append_right (by omega)
            simp only [List.replicate_succ, List.flatten_cons, h1]
            rw [h3, ih]
            simp only [hn]
      exact this len i _
    rw [h2]
    have hz : i % z.length < z.length := by rw [hn]; exact hm
    simp [hn, hm]
  · rw [List.getElem?_eq_none (by simpa using Nat.le_of_not_lt hi), List.getElem?_eq_none (by rw [hl]; omega)]
theorem mks_ok {t e : TypeId} {i : TypeInfo} {z : Value} {l c : Arg} (ht : P.underlying t = some (.slice e)) (hi : P.info? e = some i) (hz : i.zero = some z)
    (h : vcI P (.mks e i.size i.bytes z.cells.toList l c) ρ w k) : ∃ v w', (Instr.makeSlice t (l.ev ρ) (c.ev ρ)).run P w = .ok v w' ∧ k v w' := by
  replace h : mksP e i.size i.bytes z.cells.toList (l.ev ρ) (c.ev ρ) w k := h
  unfold mksP at h
  split at h
  · rename_i ka a kb b hl hc
    obtain ⟨h1, h2, h3, h4, h5, h6, hk⟩ := h
    refine ⟨_, _, ?_, hk⟩
    have hr := run_make (P := P) w t e i z ht hi hz ka kb a b h1 h2 h4 h3
    rw [hl, hc, hr]
    have e := rep_flat z.cells.toList i.size b.toNat h5 h6
    have e2 : madeCells z.cells (b.toNat * i.size) = (List.replicate b.toNat z.cells.toList).flatten.toArray := by
      rw [← Array.toList_inj, ← e]
      simp [madeCells]
    rw [e2]
    rfl
  · exact h.elim
theorem bsl_ok {t e : TypeId} {len n : Nat} {z : List Value} {ps : Array (Nat × Operand)} {l : List (Nat × Nat × Arg)} (ht : P.underlying t = some (.slice e)) (hz : zOf P e = some z) (hn : szOf P e = some n)
    (hl : plA P N (fun i => some (i * n, n)) ps.toList = some l) (hc : z.length = n ∧ 0 < n ∧ len * n ≤ 16777216) (h : vcI P (.bsl e len ((List.replicate len z).flatten) l) ρ w k) :
    ∃ v w', (Instr.buildSlice t len (ps.map fun (i, x) => (i, (act N ρ).eval x))).run P w = .ok v w' ∧ k v w' := by
  obtain ⟨r, hr, hk⟩ := seqO_ex h
  refine ⟨_, _, ?_, hk⟩
  obtain ⟨v, hv, hrun⟩ := zOf_run hz
  obtain ⟨c1, c2, c3⟩ := hc
  have hps : (ps.map fun (x : Nat × Operand) => (x.1, (act N ρ).eval x.2)).toList = ps.toList.map fun p => (p.1, (act N ρ).eval p.2) := by simp
  have hfill := fun (zz : Array Value) (hzz : zz.toList = (List.replicate len z).flatten) => fill_ok (P := P) (N := N) (ρ := ρ) (fun i => some (i * n, n)) ps.toList l zz r hl (by rw [hzz]; exact hr)
  have hbig : ¬ (len * n > 2 ^ 24) := by omega
  simp only [Instr.buildSlice, Sem.run_bind, run_underlying ht, Result.andThen_ok, szOf_run hn, if_neg hbig]
  by_cases h0 : len * n = 0
  · have hz0 : (Array.map (fun x => (#[] : Array Value)[x % (#[] : Array Value).size]!) (Array.range (len * n))).toList = (List.replicate len z).flatten := by
      have : len = 0 := by
        rcases Nat.mul_eq_zero.1 h0 with h | h
        · exact h
        · omega
      subst this
      simp
    have hf := hfill _ hz0
    rw [← hps] at hf
    simp only [h0] at hf
    simp only [h0, if_true, Sem.run_bind, Sem.run_pure, Result.andThen_ok]
    rw [hf]
    simp only [newRow, newObj]
    rfl
  · have hz0 : (Array.map (fun x => v.cells[x % v.cells.size]!) (Array.range (len * n))).toList = (List.replicate len z).flatten := by
      rw [← rep_flat z n len c1 c2, ← hv]
    have hf := hfill _ hz0
    rw [← hps] at hf
    simp only [if_neg h0, Sem.run_bind, hrun w, Result.andThen_ok, Sem.run_pure]
    rw [hf]
    simp only [newRow, newObj]
    rfl
theorem okFn_run {f : Nat} {args : Array Value} (h : okFn P f = true) : (callFunc f args).run P w = .ok (.enter f args) w := by
  unfold okFn at h
  split at h
  · rename_i fn hfn
    simp only [Bool.and_eq_true, Bool.not_eq_true'] at h
    obtain ⟨h1, h2⟩ := h
    have h3 : fn.body ≠ none := by
      intro hb; simp [hb] at h1
    have h4 : fn.name ≠ "runtime.NumGoroutine" := by simpa using h2
    simp [callFunc, program, Sem.run, hfn, h4, h3]
  · cases h
theorem call_ok {f : Nat} {args : List Arg} {c : Call} {ty : TypeId} (hcl : c.callee = .value (.func f)) (hok : okFn P f = true) (ha : allA N c.args.toList = some args) (h : callP P f (argsV ρ args) w k) :
    Goes P w k ((do let d ← resolve (act N ρ).eval c ty; invoke d.target d.args : Sem Next).run P w) := by
  have e : (c.args.map (act N ρ).eval) = (argsV ρ args).toArray := by
    rw [← Array.toList_inj]; simp [← allA_ev ha]
  simp only [resolve, hcl, Act.eval, Deferred.ofValue, Sem.run_bind, Sem.run_pure, Result.andThen_ok, invoke, e]
  simp only [Array.append_empty, Array.empty_append, okFn_run hok]
  exact ⟨rfl, h⟩
theorem ext_ok {f : Nat} {args : List Arg} {c : Call} {ty : TypeId} (hcl : c.callee = .value (.func f)) (ha : allA N c.args.toList = some args) (h : genP P (.ext f) (argsV ρ args) w k) :
    Goes P w k ((do let d ← resolve (act N ρ).eval c ty; invoke d.target d.args : Sem Next).run P w) := by
  have e : (c.args.map (act N ρ).eval) = (argsV ρ args).toArray := by
    rw [← Array.toList_inj]; simp [← allA_ev ha]
  simp only [resolve, hcl, Act.eval, Deferred.ofValue, Sem.run_bind, Sem.run_pure, Result.andThen_ok, invoke, e]
  simp only [Array.append_empty, Array.empty_append]
  obtain ⟨v, w', hr, hk⟩ := h
  simp only [lkSem, Sem.run_bind] at hr
  generalize (callFunc f (argsV ρ args).toArray).run P w = x at hr ⊢
  cases x with
  | halt a b => cases hr
  | ok n w'' =>
    simp only [Result.andThen_ok] at hr
    cases n with
    | value u =>
      simp only [Sem.run_pure, Result.ok.injEq] at hr
      obtain ⟨rfl, rfl⟩ := hr
      exact hk
    | _ => cases hr
theorem callv_ok {x : Operand} {fa : Arg} {args : List Arg} {c : Call} {ty : TypeId} (hcl : c.callee = .value x) (hx : trA N x = some fa) (ha : allA N c.args.toList = some args) (h : callvP P (fa.ev ρ) (argsV ρ args) w k) :
    Goes P w k ((do let d ← resolve (act N ρ).eval c ty; invoke d.target d.args : Sem Next).run P w) := by
  have e : (c.args.map (act N ρ).eval) = (argsV ρ args).toArray := by
    rw [← Array.toList_inj]; simp [← allA_ev ha]
  unfold callvP at h
  split at h
  · rename_i g first cap hf
    obtain ⟨hok, h⟩ := h
    simp only [resolve, hcl, trA_ev hx, hf, Deferred.ofValue, Sem.run_bind, Sem.run_pure, Result.andThen_ok, invoke, e, okFn_run hok]
    have e2 : first ++ (argsV ρ args).toArray ++ cap = (first.toList ++ argsV ρ args ++ cap.toList).toArray := by
      rw [← Array.toList_inj]; simp
    rw [e2]
    exact ⟨rfl, h⟩
  · rename_i l first cap hf
    obtain ⟨rfl, rfl, fn, tmps, assign, body, hy, hr⟩ := h
    simp only [resolve, hcl, trA_ev hx, hf, Deferred.ofValue, Sem.run_bind, Sem.run_pure, Result.andThen_ok, invoke, e, Array.empty_append, hy]
    exact ⟨rfl, hr⟩
  · exact h.elim
end
end Go.Proofs.YtdlimikcgdgfpaaGreatDoor.E
namespace Go.Proofs.YtdlimikcgdgfpaaGreatDoor.E
open Go.RowKit
section
variable {P : Program} {N : Nat} {ρ : Env} {w : World} {k : Value → World → Prop}
theorem lenS_ok {t ty : TypeId} {a : Value} {v : Value} (hu : P.underlying t = some .string) (h : lenV true a = some v) : (Builtin.len_ #[t] ty #[a]).run P w = .ok v w := by
  cases a <;> simp [lenV] at h
  subst h
  simp [Builtin.len_, run_underlying hu, goInt]
theorem lenL_ok {t e ty : TypeId} {a : Value} {v : Value} (hu : P.underlying t = some (.slice e)) (h : lenV false a = some v) : (Builtin.len_ #[t] ty #[a]).run P w = .ok v w := by
  cases a <;> simp [lenV] at h
  subst h
  simp [Builtin.len_, run_underlying hu, goInt]
theorem builtin_ok {b : Builtin} {args : List Operand} {ts : List TypeId} {vs : List Value} {c : Call} {ty : TypeId} {s : Sem Value} (hcl : c.callee = .builtin b) (ha : c.args = args.toArray) (ht : c.argTypes = ts.toArray) (hv : args.map (act N ρ).eval = vs)
    (hb : ∀ consts, builtin b ts.toArray ty consts vs.toArray = (do pure (.value (← s)))) (h : ∃ v w', s.run P w = .ok v w' ∧ k v w') :
    Goes P w k ((do let d ← resolve (act N ρ).eval c ty; invoke d.target d.args : Sem Next).run P w) := by
  have e : (c.args.map (act N ρ).eval) = vs.toArray := by
    rw [← Array.toList_inj]; simp [ha, hv]
  have hg := goes_value h
  simp only [Sem.run_bind, Sem.run_pure] at hg
  simp only [resolve, hcl, Sem.run_bind, Sem.run_pure, Result.andThen_ok, invoke, e, ht, hb]
  exact hg
theorem toList_two {α : Type} {a : Array α} {x y : α} (h : a.toList = [x, y]) : a = [x, y].toArray := by rw [← h]
theorem toList_one {α : Type} {a : Array α} {x : α} (h : a.toList = [x]) : a = [x].toArray := by rw [← h]
theorem trCall_ok {c : Call} {ty : TypeId} (h : vcI P (trCall P N c) ρ w k) : Goes P w k ((do let d ← resolve (act N ρ).eval c ty; invoke d.target d.args : Sem Next).run P w) := by
  unfold trCall at h
  split at h
  · rename_i f hcl
    obtain ⟨fa, hfa, h⟩ := A1_ok h
    obtain ⟨as, has, h⟩ := elim_ok h
    split at h
    · rename_i g
      split at h
      · rename_i hok
        exact call_ok hcl hok has h
      · exact ext_ok hcl has h
    · exact callv_ok hcl hfa has h
  · rename_i hcl
    split at h
    · rename_i x t hx ht
      obtain ⟨a, ha, h⟩ := A1_ok h
      split at h
      · rename_i hu
        obtain ⟨v, hv, hk⟩ := seqO_ex h
        exact builtin_ok (vs := [a.ev ρ]) hcl (toList_one hx) (toList_one ht) (by simp [trA_ev ha]) (fun _ => rfl) ⟨v, w, lenS_ok hu hv, hk⟩
      · rename_i hu
        obtain ⟨v, hv, hk⟩ := seqO_ex h
        exact builtin_ok (vs := [a.ev ρ]) hcl (toList_one hx) (toList_one ht) (by simp [trA_ev ha]) (fun _ => rfl) ⟨v, w, lenL_ok hu hv, hk⟩
      · exact h.elim
    · exact h.elim
  · rename_i hcl
    split at h
    · rename_i x y hx
      obtain ⟨a, ha, h⟩ := A1_ok h
      obtain ⟨b, hb, h⟩ := A1_ok h
      obtain ⟨v, hv, hk⟩ := seqO_ex h
      refine builtin_ok (vs := [a.ev ρ, b.ev ρ]) (ts := c.argTypes.toList) hcl (toList_two hx) (by simp) (by simp [trA_ev ha, trA_ev hb]) (fun _ => rfl) ⟨v, w, ?_, hk⟩
      unfold min2V at hv
      split at hv
      · rename_i h1 h2
        injection hv with hv
        subst hv
        simp [Builtin.min_, Builtin.min2, h1, h2]
      · cases hv
    · exact h.elim
  · rename_i hcl
    split at h
    · rename_i x y hx
      obtain ⟨a, ha, h⟩ := A1_ok h
      obtain ⟨b, hb, h⟩ := A1_ok h
      obtain ⟨v, hv, hk⟩ := seqO_ex h
      refine builtin_ok (vs := [a.ev ρ, b.ev ρ]) (ts := c.argTypes.toList) hcl (toList_two hx) (by simp) (by simp [trA_ev ha, trA_ev hb]) (fun _ => rfl) ⟨v, w, ?_, hk⟩
      unfold max2V at hv
      split at hv
      · rename_i h1 h2
        injection hv with hv
        subst hv
        simp [Builtin.max_, Builtin.max2, h1, h2]
      · cases hv
    · exact h.elim
  · rename_i hcl
    split at h
    · rename_i x y t u hx ht
      obtain ⟨a, ha, h⟩ := A1_ok h
      obtain ⟨b, hb, h⟩ := A1_ok h
      exact builtin_ok (vs := [a.ev ρ, b.ev ρ]) hcl (toList_two hx) (toList_two ht) (by simp [trA_ev ha, trA_ev hb]) (fun _ => rfl) h
    · exact h.elim
  · rename_i hcl
    split at h
    · rename_i x y t u hx ht
      obtain ⟨a, ha, h⟩ := A1_ok h
      obtain ⟨b, hb, h⟩ := A1_ok h
      exact builtin_ok (vs := [a.ev ρ, b.ev ρ]) hcl (toList_two hx) (toList_two ht) (by simp [trA_ev ha, trA_ev hb]) (fun _ => rfl) h
    · exact h.elim
  · exact h.elim
theorem goes_mup {t : TypeId} {a b c : Value} (h : genP P (.mup t) [a, b, c] w k) : Goes P w k ((do Instr.mapUpdate t a b c; pure .skip : Sem Next).run P w) := by
  obtain ⟨v, w', hr, hk⟩ := h
  simp only [lkSem, Sem.run_bind] at hr
  refine goes_unit ?_
  cases he : (Instr.mapUpdate t a b c).run P w with
  | halt x y => rw [he] at hr; cases hr
  | ok u w'' =>
    rw [he] at hr
    simp only [Result.andThen_ok, Sem.run_pure, Result.ok.injEq] at hr
    obtain ⟨rfl, rfl⟩ := hr
    exact ⟨w'', rfl, hk⟩
theorem goes_est {t : TypeId} {a b c : Value} (h : genP P (.est t) [a, b, c] w k) : Goes P w k ((do Instr.entryStore t a b c; pure .skip : Sem Next).run P w) := by
  obtain ⟨v, w', hr, hk⟩ := h
  simp only [lkSem, Sem.run_bind] at hr
  refine goes_unit ?_
  cases he : (Instr.entryStore t a b c).run P w with
  | halt x y => rw [he] at hr; cases hr
  | ok u w'' =>
    rw [he] at hr
    simp only [Result.andThen_ok, Sem.run_pure, Result.ok.injEq] at hr
    obtain ⟨rfl, rfl⟩ := hr
    exact ⟨w'', rfl, hk⟩
theorem trBlt_ok {c : Call} {ty : TypeId} (h : vcI P (trBlt N c ty) ρ w k) : Goes P w k ((do let d ← resolve (act N ρ).eval c ty; invoke d.target d.args : Sem Next).run P w) := by
  unfold trBlt at h
  split at h
  · rename_i b hcl
    obtain ⟨as, has, h⟩ := elim_ok h
    have hv := allA_ev (ρ := ρ) has
    split at h <;> first | exact h.elim | exact builtin_ok (ts := c.argTypes.toList) hcl (by simp) (by simp) hv (fun _ => rfl) h
  · exact h.elim
theorem trI_ok {o : Oper} (h : vcI P (trI P N o) ρ w k) : Goes P w k ((execOp (act N ρ).eval o).run P w) := by
  unfold trI at h
  split at h
  case h_1 x hop =>
    obtain ⟨a, ha, h⟩ := A1_ok h
    simp only [execOp, hop, Sem.run_pure, trA_ev ha]; exact h
  case h_2 x hop =>
    obtain ⟨a, ha, h⟩ := A1_ok h
    simp only [execOp, hop, Sem.run_pure, trA_ev ha]; exact h
  case h_3 c a b hop =>
    obtain ⟨c', hc, h⟩ := A1_ok h
    obtain ⟨a', ha, h⟩ := A1_ok h
    obtain ⟨b', hb, h⟩ := A1_ok h
    obtain ⟨t, ht, hk⟩ := seqO_ex h
    unfold asB at ht
    split at ht <;> first | (cases ht; done) | skip
    rename_i hcv
    injection ht with ht; subst ht
    simp only [execOp, hop, trA_ev hc, trA_ev ha, trA_ev hb, hcv, asBool, Sem.run_bind, Sem.run_pure, Result.andThen_ok]
    exact hk
  case h_4 t hop =>
    obtain ⟨z, hz, h⟩ := elim_ok h
    simp only [execOp, hop]
    exact goes_value ⟨_, _, alloc_ok hz, h⟩
  case h_5 t x hop =>
    obtain ⟨a, ha, h⟩ := A1_ok h
    simp only [execOp, hop, trA_ev ha]
    exact goes_value ⟨_, _, box_ok, h⟩
  case h_6 t x hop =>
    obtain ⟨a, ha, h⟩ := A1_ok h
    simp only [execOp, hop, trA_ev ha]
    exact goes_value (load_ok h)
  case h_7 t x y hop =>
    obtain ⟨a, ha, h⟩ := A1_ok h
    obtain ⟨b, hb, h⟩ := A1_ok h
    obtain ⟨n, hn, h⟩ := elim_ok h
    simp only [execOp, hop, trA_ev ha, trA_ev hb]
    exact goes_unit (store_ok hn h)
  case h_8 x hop =>
    obtain ⟨a, ha, h⟩ := A1_ok h
    obtain ⟨v, hv, hk⟩ := seqO_ex h
    simp only [execOp, hop, trA_ev ha]
    unfold nckV at hv
    split at hv <;> first | (cases hv; done) | skip
    all_goals
      rename_i heq
      injection hv with hv
      subst hv
      rw [heq]
      exact hk
  case h_9 op t x y _ hop =>
    obtain ⟨a, ha, h⟩ := A1_ok h
    obtain ⟨b, hb, h⟩ := A1_ok h
    split at h
    · simp only [execOp, hop, trA_ev ha, trA_ev hb]
      exact goes_value h
    · obtain ⟨v, hv, hk⟩ := bin_ok h
      simp only [execOp, hop, trA_ev ha, trA_ev hb]
      exact goes_value ⟨v, w, hv, hk⟩
  case h_10 op _ x hop =>
    obtain ⟨a, ha, h⟩ := A1_ok h
    obtain ⟨v, hv, hk⟩ := seqO_ex h
    simp only [execOp, hop, trA_ev ha]
    exact goes_value ⟨v, w, un_run hv, hk⟩
  case h_11 s x f hop =>
    obtain ⟨a, ha, h⟩ := A1_ok h
    obtain ⟨fd, hfd, h⟩ := elim_ok h
    split at h
    · rename_i n hn
      obtain ⟨v, hv, hk⟩ := seqO_ex h
      simp only [execOp, hop, trA_ev ha]
      exact goes_value ⟨v, w, fld_ok hfd hn hv, hk⟩
    · exact h.elim
  case h_12 s x f hop =>
    obtain ⟨a, ha, h⟩ := A1_ok h
    obtain ⟨fd, hfd, h⟩ := elim_ok h
    obtain ⟨fs, hs, hf⟩ := fOf_some hfd
    simp only [execOp, hop, trA_ev ha]
    split at h
    · rename_i d hd
      split at h
      · rename_i hag
        split at h
        · rename_i n hn
          obtain ⟨v, hv, hk⟩ := seqO_ex h
          unfold getNV at hv
          split at hv <;> first | (cases hv; done) | skip
          rename_i cs hcs
          injection hv with hv; subst hv
          refine goes_value ⟨_, w, ?_, hk⟩
          simp only [Instr.field, Sem.run_bind, run_underlying hs, Result.andThen_ok, hf, hcs, asAgg, Sem.run_pure, partN_run hd hag hn]
        · exact h.elim
      · rename_i hag
        obtain ⟨v, hv, hk⟩ := seqO_ex h
        unfold get1V at hv
        split at hv <;> first | (cases hv; done) | skip
        rename_i cs hcs
        refine goes_value ⟨_, w, ?_, hk⟩
        simp only [Instr.field, Sem.run_bind, run_underlying hs, Result.andThen_ok, hf, hcs, asAgg, Sem.run_pure, part1_run hd (by simpa using hag) hv]
    · exact h.elim
  case h_13 t x i hop =>
    obtain ⟨a, ha, h⟩ := A1_ok h
    obtain ⟨b, hb, h⟩ := A1_ok h
    simp only [execOp, hop, trA_ev ha, trA_ev hb]
    split at h
    · rename_i e he
      split at h
      · rename_i n hn
        obtain ⟨v, hv, hk⟩ := seqO_ex h
        exact goes_value ⟨v, w, idx_ok he hn hv, hk⟩
      · exact h.elim
    · rename_i len e he
      split at h
      · rename_i n hn
        obtain ⟨v, hv, hk⟩ := seqO_ex h
        exact goes_value ⟨v, w, idxA_ok he hn hv, hk⟩
      · exact h.elim
    · exact h.elim
  case h_14 t x i hop =>
    obtain ⟨a, ha, h⟩ := A1_ok h
    obtain ⟨b, hb, h⟩ := A1_ok h
    simp only [execOp, hop, trA_ev ha, trA_ev hb]
    split at h
    · rename_i he
      obtain ⟨v, hv, hk⟩ := seqO_ex h
      exact goes_value ⟨v, w, ixS_ok he hv, hk⟩
    · exact h.elim
  case h_15 t x lo hi mx hop =>
    obtain ⟨a, ha, h⟩ := A1_ok h
    obtain ⟨l, hl, h⟩ := elim_ok h
    obtain ⟨u, hu, h⟩ := elim_ok h
    simp only [execOp, hop, trA_ev ha, optA_ev hl, optA_ev hu]
    split at h
    · exact goes_value (slice_ok h)
    · exact h.elim
  case h_16 s d x hop =>
    obtain ⟨a, ha, h⟩ := A1_ok h
    simp only [execOp, hop, trA_ev ha]
    rcases orGen_ok h with h | h
    · exact goes_value (conv_ok h)
    · exact goes_value h
  case h_17 fn first cap hop =>
    simp only [execOp, hop]
    split at h
    · obtain ⟨a, ha, h⟩ := elim_ok h
      obtain ⟨b, hb, h⟩ := elim_ok h
      have e1 : first.map (act N ρ).eval = (argsV ρ a).toArray := by rw [← Array.toList_inj]; simp [← allA_ev ha]
      have e2 : cap.map (act N ρ).eval = (argsV ρ b).toArray := by rw [← Array.toList_inj]; simp [← allA_ev hb]
      rw [e1, e2]
      exact goes_value ⟨_, w, rfl, h⟩
    · exact h.elim
  case h_18 t hop =>
    simp only [execOp, hop]
    exact goes_value ⟨_, _, rfl, h⟩
  case h_19 t l c hop =>
    obtain ⟨a, ha, h⟩ := A1_ok h
    obtain ⟨b, hb, h⟩ := A1_ok h
    simp only [execOp, hop, trA_ev ha, trA_ev hb]
    split at h
    · rename_i e he
      split at h
      · rename_i i hi
        split at h
        · rename_i z hz
          exact goes_value (mks_ok he hi hz h)
        · exact h.elim
      · exact h.elim
    · exact h.elim
  case h_20 t ps hop =>
    simp only [execOp, hop]
    split at h
    · rename_i fs hfs
      obtain ⟨z, hz, h⟩ := elim_ok h
      obtain ⟨l, hl, h⟩ := elim_ok h
      split at h
      · rename_i hall
        exact goes_value (build_ok hfs hz hl hall h)
      · exact h.elim
    · rename_i len e he
      obtain ⟨z, hz, h⟩ := elim_ok h
      obtain ⟨n, hn, h⟩ := elim_ok h
      obtain ⟨l, hl, h⟩ := elim_ok h
      exact goes_value (buildA_ok he hz hn hl h)
    · exact h.elim
  case h_21 t len ps hop =>
    simp only [execOp, hop]
    split at h
    · rename_i e he
      obtain ⟨z, hz, h⟩ := elim_ok h
      obtain ⟨n, hn, h⟩ := elim_ok h
      obtain ⟨l, hl, h⟩ := elim_ok h
      split at h
      · rename_i hc
        exact goes_value (bsl_ok he hz hn hl hc h)
      · exact h.elim
    · exact h.elim
  case h_22 x i hop =>
    obtain ⟨a, ha, h⟩ := A1_ok h
    obtain ⟨v, hv, hk⟩ := seqO_ex h
    simp only [execOp, hop, trA_ev ha]
    refine goes_value ⟨v, w, ?_, hk⟩
    unfold extV at hv
    split at hv <;> first | (cases hv; done) | skip
    rename_i vs hvs
    have hv' : vs[i]? = some v := by simpa using hv
    simp [Instr.extract, hvs, hv']
  case h_23 c hop =>
    simp only [execOp, hop]
    rcases orGen_ok h with h | h
    · exact trCall_ok h
    · exact trBlt_ok h
  case h_24 t x i ok hop =>
    obtain ⟨a, ha, h⟩ := A1_ok h
    obtain ⟨b, hb, h⟩ := A1_ok h
    simp only [execOp, hop, trA_ev ha, trA_ev hb]
    exact goes_value h
  case h_25 t m kk x hop =>
    obtain ⟨a, ha, h⟩ := A1_ok h
    obtain ⟨b, hb, h⟩ := A1_ok h
    obtain ⟨c, hc, h⟩ := A1_ok h
    simp only [execOp, hop, trA_ev ha, trA_ev hb, trA_ev hc]
    exact goes_mup h
  case h_26 t m kk x hop =>
    obtain ⟨a, ha, h⟩ := A1_ok h
    obtain ⟨b, hb, h⟩ := A1_ok h
    obtain ⟨c, hc, h⟩ := A1_ok h
    simp only [execOp, hop, trA_ev ha, trA_ev hb, trA_ev hc]
    exact goes_mup h
  case h_27 t r hop =>
    obtain ⟨a, ha, h⟩ := A1_ok h
    simp only [execOp, hop, Option.map_some, trA_ev ha]
    exact goes_value h
  case h_28 t x hop =>
    obtain ⟨a, ha, h⟩ := A1_ok h
    simp only [execOp, hop, trA_ev ha]
    exact goes_value h
  case h_29 x s hop =>
    obtain ⟨a, ha, h⟩ := A1_ok h
    simp only [execOp, hop, trA_ev ha]
    exact goes_value h
  case h_30 x hop =>
    obtain ⟨a, ha, h⟩ := A1_ok h
    simp only [execOp, hop, trA_ev ha]
    exact goes_value h
  case h_31 t x hop =>
    obtain ⟨a, ha, h⟩ := A1_ok h
    simp only [execOp, hop, trA_ev ha]
    exact goes_value h
  case h_32 x t u ok hop =>
    obtain ⟨a, ha, h⟩ := A1_ok h
    simp only [execOp, hop, trA_ev ha]
    exact goes_value h
  case h_33 t m kk hop =>
    obtain ⟨a, ha, h⟩ := A1_ok h
    obtain ⟨b, hb, h⟩ := A1_ok h
    simp only [execOp, hop, trA_ev ha, trA_ev hb]
    exact goes_value h
  case h_34 t m kk x hop =>
    obtain ⟨a, ha, h⟩ := A1_ok h
    obtain ⟨b, hb, h⟩ := A1_ok h
    obtain ⟨c, hc, h⟩ := A1_ok h
    simp only [execOp, hop, trA_ev ha, trA_ev hb, trA_ev hc]
    exact goes_est h
  case h_35 => exact h.elim
end
end Go.Proofs.YtdlimikcgdgfpaaGreatDoor.E
namespace Go.Proofs.YtdlimikcgdgfpaaGreatDoor.E
open Go.RowKit
structure St where
  dst : Option Nat
  grd : Option (Nat × Bool)
  ins : Ins
def trO (P : Program) (N : Nat) (ops : Array Oper) (o : Oper) : St :=
  match o.guard with
  | none => ⟨o.dst, none, trI P N o⟩
  | some (j, want) =>
    match (ops[j]?).bind (·.dst) with
    | some s => if s < N then ⟨o.dst, some (s, want), trI P N o⟩ else ⟨o.dst, none, .bad⟩
    | none => ⟨o.dst, none, .bad⟩
abbrev Post := Exit → Env → World → Prop
def thenQ (K : Env → World → Prop) (Q : Post) : Post := fun e ρ w => match e with | .normal => K ρ w | e => Q e ρ w
def blkQ (id : Nat) (Q : Post) : Post := fun e ρ w => match e with | .exit i => if i = id then Q .normal ρ w else Q (.exit i) ρ w | e => Q e ρ w
def grdP (v : Value) (want : Bool) (X Y : Prop) : Prop := match v with | .bool b => if b = want then X else Y | _ => Y
def condP (v : Value) (X Y : Prop) : Prop := match v with | .bool true => X | .bool false => Y | _ => False
theorem grdP_mono {v : Value} {want : Bool} {X Y X' Y' : Prop} (hx : X → X') (hy : Y → Y') (h : grdP v want X Y) : grdP v want X' Y' := by
  unfold grdP at *
  split at h
  · split at h
    · rename_i hc; rw [if_pos hc]; exact hx h
    · rename_i hc; rw [if_neg hc]; exact hy h
  · exact hy h
theorem condP_mono {v : Value} {X Y X' Y' : Prop} (hx : X → X') (hy : Y → Y') (h : condP v X Y) : condP v X' Y' := by
  unfold condP at *
  split at h
  · exact hx h
  · exact hy h
  · exact h.elim
def vcL (P : Program) : List St → Post → Env → World → Prop
  | [], Q, ρ, w => Q .normal ρ w
  | s :: r, Q, ρ, w =>
    match s.grd with
    | none => vcI P s.ins ρ w fun v w' => vcL P r Q (upd ρ s.dst v) w'
    | some (g, want) => grdP (ρ g) want (vcI P s.ins ρ w fun v w' => vcL P r Q (upd ρ s.dst v) w') (vcL P r Q (upd ρ s.dst undef) w)
section
variable {P : Program} {N : Nat} {ρ : Env} {w : World}
def lift (N : Nat) (Q : Post) : Exit → Act → World → Prop := fun e a w => ∃ ρ, a = act N ρ ∧ Q e ρ w
theorem vcI_mono {i : Ins} {k k' : Value → World → Prop} (hk : ∀ v w, k v w → k' v w) (h : vcI P i ρ w k) : vcI P i ρ w k' := by
  cases i
  case mov => exact hk _ _ h
  case alloc => exact hk _ _ h
  case box => exact hk _ _ h
  case mkf => exact hk _ _ h
  case mkm => exact hk _ _ h
  case bad => exact h.elim
  case chk => exact ⟨h.1, hk _ _ h.2⟩
  case chkN => exact ⟨h.1, hk _ _ h.2⟩
  case mks e sz bytes z l c =>
    replace h : mksP e sz bytes z (l.ev ρ) (c.ev ρ) w k := h
    show mksP e sz bytes z (l.ev ρ) (c.ev ρ) w k'
    unfold mksP at *
    split at h
    · exact ⟨h.1, h.2.1, h.2.2.1, h.2.2.2.1, h.2.2.2.2.1, h.2.2.2.2.2.1, hk _ _ h.2.2.2.2.2.2⟩
    · exact h.elim
  case cvBS x =>
    replace h : cvBSP w (x.ev ρ) (fun v => k v w) := h
    show cvBSP w (x.ev ρ) (fun v => k' v w)
    unfold cvBSP at *
    split at h
    · exact hk _ _ h
    · obtain ⟨l, h1, h2, h3⟩ := h; exact ⟨l, h1, h2, hk _ _ h3⟩
    · exact h.elim
  case call f as => exact Calls.mono (R := fun e w' => ∃ v, e = .returned v ∧ k v w') h fun e w' ⟨v, he, hh⟩ => ⟨v, he, hk _ _ hh⟩
  case callv x as =>
    replace h : callvP P (x.ev ρ) (argsV ρ as) w k := h
    show callvP P (x.ev ρ) (argsV ρ as) w k'
    unfold callvP at *
    split at h
    · exact ⟨h.1, Calls.mono (R := fun e w' => ∃ v, e = .returned v ∧ k v w') h.2 fun e w' ⟨v, he, hh⟩ => ⟨v, he, hk _ _ hh⟩⟩
    · obtain ⟨h1, h2, f, tmps, assign, body, h3, h4⟩ := h
      exact ⟨h1, h2, f, tmps, assign, body, h3, RoundIn.mono (R := fun e w' => ∃ v, e = .returned v ∧ k v w') h4 fun e w' ⟨v, he, hh⟩ => ⟨v, he, hk _ _ hh⟩⟩
    · exact h.elim
  case app t u x y => obtain ⟨v, w', h1, h2⟩ := h; exact ⟨v, w', h1, hk _ _ h2⟩
  case cpy t u x y => obtain ⟨v, w', h1, h2⟩ := h; exact ⟨v, w', h1, hk _ _ h2⟩
  case gen kd xs => obtain ⟨v, w', h1, h2⟩ := h; exact ⟨v, w', h1, hk _ _ h2⟩
  all_goals exact seqO_mono (fun _ hh => hk _ _ hh) h
theorem vcL_mono : ∀ {l : List St} {Q Q' : Post} {ρ : Env} {w : World}, (∀ e ρ w, Q e ρ w → Q' e ρ w) → vcL P l Q ρ w → vcL P l Q' ρ w
  | [], _, _, _, _, hq, h => hq _ _ _ h
  | s :: r, Q, Q', ρ, w, hq, h => by
    simp only [vcL] at h ⊢
    split at h
    · rename_i hg; exact vcI_mono (fun v w h => vcL_mono hq h) h
    · rename_i hg; exact grdP_mono (fun h => vcI_mono (fun v w h => vcL_mono hq h) h) (vcL_mono hq) h
theorem thenQ_mono {K K' : Env → World → Prop} {Q Q' : Post} (hk : ∀ ρ w, K ρ w → K' ρ w) (hq : ∀ e ρ w, Q e ρ w → Q' e ρ w) (e : Exit) (ρ : Env) (w : World) (h : thenQ K Q e ρ w) : thenQ K' Q' e ρ w := by
  cases e with
  | normal => exact hk _ _ h
  | _ => exact hq _ _ _ h
theorem blkQ_mono {id : Nat} {Q Q' : Post} (hq : ∀ e ρ w, Q e ρ w → Q' e ρ w) (e : Exit) (ρ : Env) (w : World) (h : blkQ id Q e ρ w) : blkQ id Q' e ρ w := by
  cases e with
  | exit i =>
    simp only [blkQ] at h ⊢
    split at h
    · rename_i hc; simp [hc]; exact hq _ _ _ h
    · rename_i hc; simp [hc]; exact hq _ _ _ h
  | _ => exact hq _ _ _ h
def boolOf : Value → Option Bool | .bool b => some b | _ => none
theorem act_yield {ops : Array Oper} {j s : Nat} (h : (ops[j]?).bind (·.dst) = some s) (hs : s < N) : yielded ops (act N ρ).tmps j = boolOf (ρ s) := by
  unfold yielded
  rw [h]
  have : (act N ρ).tmps[s]? = some (ρ s) := by simp [act, hs]
  simp only [Option.bind_some, this]
  cases ρ s <;> rfl
def dOk (N : Nat) (l : List Oper) : Bool := l.all fun o => o.dst != some N
theorem trI_nd {o : Oper} {k : Value → World → Prop} (h : vcI P (trI P N o) ρ w k) : ∀ c, o.op ≠ .defer c := by
  intro c hc
  simp only [trI, hc] at h
  exact h
end
end Go.Proofs.YtdlimikcgdgfpaaGreatDoor.E
namespace Go.Proofs.YtdlimikcgdgfpaaGreatDoor.E
open Go.RowKit
def cls : Ins → Nat
  | .mov _ | .pick _ _ _ | .bin _ _ _ | .sft _ _ _ | .eq _ _ _ _ | .eqi _ _ _ | .un _ _ | .build _ _ | .nck _ | .fld _ _ | .get1 _ _ | .getN _ _ _
  | .idx _ _ _ | .idxA _ _ _ _ | .ixS _ _ | .subS _ _ _ | .subL _ _ _ _ | .subA _ _ _ _ _ | .cvi _ _ | .cvSS _ | .mkf _ _ _ | .ext _ _ | .len _ _ | .min2 _ _ | .max2 _ _ => 0
  | .load _ | .loadN _ _ => 1
  | _ => 2
def argR : Arg → List Nat | .t n => [n] | .v _ => []
def optR : Option Arg → List Nat | some a => argR a | none => []
def insR : Ins → List Nat
  | .mov x | .un _ x | .load x | .loadN _ x | .box _ x | .nck x | .fld _ x | .get1 _ x | .getN _ _ x | .cvi _ x | .cvBS x | .cvSS x | .ext _ x | .len _ x => argR x
  | .pick a b c => argR a ++ argR b ++ argR c
  | .bin _ x y | .sft _ x y | .eq _ _ x y | .eqi _ x y | .store _ x y | .idx _ x y | .idxA _ _ x y | .ixS x y | .min2 x y | .max2 x y | .app _ _ x y | .cpy _ _ x y | .mks _ _ _ _ x y => argR x ++ argR y
  | .build _ ps | .bsl _ _ _ ps => ps.flatMap fun p => argR p.2.2
  | .subS x a b | .subL _ x a b | .subA _ _ x a b => argR x ++ (optR a ++ optR b)
  | .mkf _ a b => a.flatMap argR ++ b.flatMap argR
  | .call _ a => a.flatMap argR
  | .gen _ a => a.flatMap argR
  | .callv x a => argR x ++ a.flatMap argR
  | .chk x d => d :: argR x
  | .chkN _ x d => d :: argR x
  | _ => []
def stR (s : St) : List Nat := (match s.grd with | some (g, _) => [g] | none => []) ++ insR s.ins
def dstL (s : St) : List Nat := match s.dst with | some d => [d] | none => []
def aprt (s t : St) : Bool := (dstL s).all (fun d => !(stR t).elem d && !(dstL t).elem d) && (dstL t).all (fun d => !(stR s).elem d)
section
variable {P : Program} {ρ ρ' : Env} {w : World} {k : Value → World → Prop}
theorem arg_congr {a : Arg} (h : ∀ t, t ∈ argR a → ρ t = ρ' t) : a.ev ρ = a.ev ρ' := by
  cases a with
  | t n => exact h n (by simp [argR])
  | v x => rfl
theorem opt_congr {a : Option Arg} (h : ∀ t, t ∈ optR a → ρ t = ρ' t) : a.map (Arg.ev ρ) = a.map (Arg.ev ρ') := by
  cases a with
  | none => rfl
  | some a => simp only [Option.map_some]; rw [arg_congr h]
theorem args_congr {l : List Arg} (h : ∀ t, t ∈ l.flatMap argR → ρ t = ρ' t) : argsV ρ l = argsV ρ' l := by
  unfold argsV
  apply List.map_congr_left
  intro a ha
  exact arg_congr fun t ht => h t (List.mem_flatMap.2 ⟨a, ha, ht⟩)
theorem lays_congr {l : List (Nat × Nat × Arg)} (h : ∀ t, t ∈ l.flatMap (fun p => argR p.2.2) → ρ t = ρ' t) : layA ρ l = layA ρ' l := by
  unfold layA
  apply List.map_congr_left
  intro a ha
  rw [arg_congr fun t ht => h t (List.mem_flatMap.2 ⟨a, ha, ht⟩)]
theorem ins_congr {i : Ins} (h : ∀ t, t ∈ insR i → ρ t = ρ' t) : vcI P i ρ w k = vcI P i ρ' w k := by
  cases i <;> simp only [insR, List.mem_append, List.mem_cons] at h <;> simp only [vcI]
  case pick a b c => rw [arg_congr (a := a) fun t ht => h t (.inl (.inl ht)), arg_congr (a := b) fun t ht => h t (.inl (.inr ht)), arg_congr (a := c) fun t ht => h t (.inr ht)]
  case build => rw [lays_congr h]
  case bsl => rw [lays_congr h]
  case mkf a b => rw [args_congr (l := a) fun t ht => h t (.inl ht), args_congr (l := b) fun t ht => h t (.inr ht)]
  case call => rw [args_congr h]
  case gen => rw [args_congr h]
  case callv x a => rw [arg_congr (a := x) fun t ht => h t (.inl ht), args_congr (l := a) fun t ht => h t (.inr ht)]
  case subS x a b => rw [arg_congr (a := x) fun t ht => h t (.inl ht), opt_congr (a := a) fun t ht => h t (.inr (.inl ht)), opt_congr (a := b) fun t ht => h t (.inr (.inr ht))]
  case subL x a b => rw [arg_congr (a := x) fun t ht => h t (.inl ht), opt_congr (a := a) fun t ht => h t (.inr (.inl ht)), opt_congr (a := b) fun t ht => h t (.inr (.inr ht))]
  case subA x a b => rw [arg_congr (a := x) fun t ht => h t (.inl ht), opt_congr (a := a) fun t ht => h t (.inr (.inl ht)), opt_congr (a := b) fun t ht => h t (.inr (.inr ht))]
  case chk x d => rw [arg_congr (a := x) fun t ht => h t (.inr ht), h d (.inl rfl)]
  case chkN n x d => rw [arg_congr (a := x) fun t ht => h t (.inr ht), h d (.inl rfl)]
  all_goals first
    | rfl
    | (rename_i x; rw [arg_congr (a := x) h]; done)
    | (rename_i x y; rw [arg_congr (a := x) fun t ht => h t (.inl ht), arg_congr (a := y) fun t ht => h t (.inr ht)]; done)
theorem W_val {i : Ins} (hr : cls i = 0) (h : vcI P i ρ w k) : ∃ v, k v w ∧ ∀ w', vcI P i ρ w' fun u w'' => u = v ∧ w'' = w' := by
  cases i <;> simp only [cls] at hr <;> try (cases hr; done)
  case mov => exact ⟨_, h, fun n => ⟨rfl, rfl⟩⟩
  case mkf => exact ⟨_, h, fun n => ⟨rfl, rfl⟩⟩
  all_goals
    obtain ⟨v, hv, hk⟩ := seqO_ex h
    refine ⟨_, hk, fun n => ?_⟩
    show seqO _ _
    rw [hv]
    exact ⟨rfl, rfl⟩
theorem R_val {i : Ins} (hr : cls i = 1) (h : vcI P i ρ w k) : ∃ v, k v w ∧ vcI P i ρ w fun u w'' => u = v ∧ w'' = w := by
  cases i <;> simp only [cls] at hr <;> try (cases hr; done)
  all_goals
    obtain ⟨v, hv, hk⟩ := seqO_ex h
    refine ⟨_, hk, ?_⟩
    show seqO _ _
    rw [hv]
    exact ⟨rfl, rfl⟩
theorem vcI_ex {i : Ins} (h : vcI P i ρ w k) : ∃ v w', k v w' := by
  cases i
  case mov => exact ⟨_, _, h⟩
  case alloc => exact ⟨_, _, h⟩
  case box => exact ⟨_, _, h⟩
  case mkf => exact ⟨_, _, h⟩
  case mkm => exact ⟨_, _, h⟩
  case bad => exact h.elim
  case chk => exact ⟨_, _, h.2⟩
  case chkN => exact ⟨_, _, h.2⟩
  case mks e sz bytes z l c =>
    replace h : mksP e sz bytes z (l.ev ρ) (c.ev ρ) w k := h
    unfold mksP at h
    split at h
    · exact ⟨_, _, h.2.2.2.2.2.2⟩
    · exact h.elim
  case cvBS x =>
    replace h : cvBSP w (x.ev ρ) (fun v => k v w) := h
    unfold cvBSP at h
    split at h
    · exact ⟨_, _, h⟩
    · obtain ⟨l, h1, h2, h3⟩ := h; exact ⟨_, _, h3⟩
    · exact h.elim
  case call f as =>
    obtain ⟨e, w', _, ⟨v, _, hk⟩, _⟩ := h []
    exact ⟨v, w', hk⟩
  case callv x as =>
    replace h : callvP P (x.ev ρ) (argsV ρ as) w k := h
    unfold callvP at h
    split at h
    · obtain ⟨e, w', _, ⟨v, _, hk⟩, _⟩ := h.2 []
      exact ⟨v, w', hk⟩
    · obtain ⟨_, _, f, tmps, assign, body, _, h4⟩ := h
      obtain ⟨e, w', ⟨v, _, hk⟩, _⟩ := h4.2 default [] (room_wide _)
      exact ⟨v, w', hk⟩
    · exact h.elim
  case app t u x y => obtain ⟨v, w', h1, h2⟩ := h; exact ⟨v, w', h2⟩
  case cpy t u x y => obtain ⟨v, w', h1, h2⟩ := h; exact ⟨v, w', h2⟩
  case gen kd xs => obtain ⟨v, w', h1, h2⟩ := h; exact ⟨v, w', h2⟩
  all_goals (obtain ⟨v, hv, hk⟩ := seqO_ex h; exact ⟨_, _, hk⟩)
def opS (P : Program) (s : St) (k : Value → World → Prop) (ρ : Env) (w : World) : Prop :=
  match s.grd with
  | none => vcI P s.ins ρ w k
  | some (g, b) => grdP (ρ g) b (vcI P s.ins ρ w k) (k undef w)
theorem vcL_cons (s : St) (r : List St) (Q : Post) : vcL P (s :: r) Q ρ w = opS P s (fun v w' => vcL P r Q (upd ρ s.dst v) w') ρ w := by
  simp only [vcL, opS]
  all_goals (cases s.grd <;> rfl)
theorem opS_mono {s : St} {k k' : Value → World → Prop} (hk : ∀ v w, k v w → k' v w) (h : opS P s k ρ w) : opS P s k' ρ w := by
  unfold opS at *
  split at h
  · exact vcI_mono hk h
  · exact grdP_mono (vcI_mono hk) (hk _ _) h
theorem opS_congr {s : St} (h : ∀ t, t ∈ stR s → ρ t = ρ' t) : opS P s k ρ w = opS P s k ρ' w := by
  unfold opS
  unfold stR at h
  cases hg : s.grd with
  | none => exact ins_congr fun t ht => h t (by simp [hg, ht])
  | some x =>
    obtain ⟨g, b⟩ := x
    simp only
    rw [h g (by simp [hg]), ins_congr (i := s.ins) fun t ht => h t (by simp [hg, ht])]
theorem opS_ways (s : St) (ρ : Env) : (∀ w k, opS P s k ρ w = vcI P s.ins ρ w k) ∨ (∀ w k, opS P s k ρ w = k undef w) := by
  unfold opS
  cases hg : s.grd with
  | none => exact .inl fun _ _ => rfl
  | some x =>
    obtain ⟨g, b⟩ := x
    simp only
    unfold grdP
    split
    · split
      · exact .inl fun _ _ => rfl
      · exact .inr fun _ _ => rfl
    · exact .inr fun _ _ => rfl
theorem opW_val {s : St} (hr : cls s.ins = 0) (h : opS P s k ρ w) : ∃ v, k v w ∧ ∀ w', opS P s (fun u w'' => u = v ∧ w'' = w') ρ w' := by
  rcases opS_ways (P := P) s ρ with hw | hw
  · rw [hw] at h
    obtain ⟨v, h1, h2⟩ := W_val hr h
    exact ⟨v, h1, fun w' => by rw [hw]; exact h2 w'⟩
  · rw [hw] at h
    exact ⟨undef, h, fun w' => by rw [hw]; exact ⟨rfl, rfl⟩⟩
theorem opR_val {s : St} (hr : cls s.ins = 1) (h : opS P s k ρ w) : ∃ v, k v w ∧ opS P s (fun u w'' => u = v ∧ w'' = w) ρ w := by
  rcases opS_ways (P := P) s ρ with hw | hw
  · rw [hw] at h
    obtain ⟨v, h1, h2⟩ := R_val hr h
    exact ⟨v, h1, by rw [hw]; exact h2⟩
  · rw [hw] at h
    exact ⟨undef, h, by rw [hw]; exact ⟨rfl, rfl⟩⟩
theorem opS_ex {s : St} (h : opS P s k ρ w) : ∃ v w', k v w' := by
  rcases opS_ways (P := P) s ρ with hw | hw
  · rw [hw] at h; exact vcI_ex h
  · rw [hw] at h; exact ⟨_, _, h⟩
theorem opS_of {s : St} {v : Value} (h : opS P s (fun u w'' => u = v ∧ w'' = w) ρ w) (hk : k v w) : opS P s k ρ w := opS_mono (fun u w'' ⟨h1, h2⟩ => by subst h1; subst h2; exact hk) h
end
def reach (ops : Array Oper) : Nat → Nat → Nat → Bool
  | 0, _, _ => false
  | n + 1, j, i => match ops[j]? with
    | some o => o.after.any fun e => Region.binds .any e && (e.on == i || (Nat.blt i e.on && reach ops n e.on i))
    | none => false
def fuel : Nat := 8
def okp (ops : Array Oper) (i j : Nat) (s t : St) : Bool :=
  aprt s t && (cls s.ins == 0 || cls t.ins == 0 || (cls s.ins == 1 && (cls t.ins == 1 || !reach ops fuel j i)))
section
variable {P : Program} {N : Nat} {ops : Array Oper} {sts : List St}
abbrev Hold := Nat → World → Prop
def setH (H : Hold) (i : Nat) (p : World → Prop) : Hold := fun r => if r = i then p else H r
def stepE (P : Program) (ops : Array Oper) (sts : List St) (i : Nat) (K : Env → World → Hold → Prop) (ρ : Env) (w : World) (H : Hold) : Prop :=
  match sts[i]? with
  | none => K ρ w H
  | some s =>
    opS P s (fun v w' => (cls s.ins = 2 → ∀ r, reach ops fuel i r = false → H r w') ∧
      K (upd ρ s.dst v) w' (if cls s.ins = 1 then setH H i (fun w'' => opS P s (fun u w3 => u = v ∧ w3 = w'') ρ w'') else H)) ρ w
def vcAny (P : Program) (ops : Array Oper) (sts : List St) (Kf : Env → World → Prop) : Nat → Array Bool → Env → World → Hold → Prop
  | 0, listed, ρ, w, _ => Region.ready .any ops listed = [] ∧ Kf ρ w
  | n + 1, listed, ρ, w, H => (Region.ready .any ops listed = [] → Kf ρ w) ∧ ∀ i ∈ Region.ready .any ops listed, stepE P ops sts i (vcAny P ops sts Kf n (listed.setIfInBounds i true)) ρ w H
theorem stepE_mono {i : Nat} {K K' : Env → World → Hold → Prop} {ρ : Env} {w : World} {H : Hold} (hk : ∀ ρ w H, K ρ w H → K' ρ w H) (h : stepE P ops sts i K ρ w H) : stepE P ops sts i K' ρ w H := by
  unfold stepE at *
  split at h
  · exact hk _ _ _ h
  · exact opS_mono (fun v w' ⟨h1, h2⟩ => ⟨h1, hk _ _ _ h2⟩) h
theorem stepE_ex {i : Nat} {K : Env → World → Hold → Prop} {ρ : Env} {w : World} {H : Hold} (h : stepE P ops sts i K ρ w H) : ∃ ρ w H, K ρ w H := by
  unfold stepE at h
  split at h
  · exact ⟨_, _, _, h⟩
  · obtain ⟨v, w', _, h2⟩ := opS_ex h
    exact ⟨_, _, _, h2⟩
theorem upd_comm {ρ : Env} {s t : St} (h : ∀ d, d ∈ dstL s → d ∉ dstL t) (u v : Value) : upd (upd ρ s.dst u) t.dst v = upd (upd ρ t.dst v) s.dst u := by
  unfold dstL at h
  cases hs : s.dst with
  | none => rfl
  | some d =>
    cases ht : t.dst with
    | none => rfl
    | some e =>
      rw [hs, ht] at h
      have hne : d ≠ e := fun he => h d (by simp) (by simp [he])
      funext i
      simp only [upd, up]
      by_cases h1 : i = e
      · have h2 : i ≠ d := fun he => hne (he.symm.trans h1)
        simp [h1, Ne.symm hne]
      · simp [h1]
theorem upd_off {ρ : Env} {s t : St} (h : ∀ d, d ∈ dstL s → d ∉ stR t) (v : Value) : ∀ x, x ∈ stR t → upd ρ s.dst v x = ρ x := by
  intro x hx
  unfold dstL at h
  cases hs : s.dst with
  | none => rfl
  | some d =>
    rw [hs] at h
    have : x ≠ d := fun he => h d (by simp) (he ▸ hx)
    simp [upd, up, this]
theorem aprt_spec {s t : St} (h : aprt s t = true) : (∀ d, d ∈ dstL s → d ∉ stR t) ∧ (∀ d, d ∈ dstL s → d ∉ dstL t) ∧ (∀ d, d ∈ dstL t → d ∉ stR s) := by
  simp only [aprt, Bool.and_eq_true, List.all_eq_true] at h
  obtain ⟨h1, h2⟩ := h
  refine ⟨fun d hd hm => ?_, fun d hd hm => ?_, fun d hd hm => ?_⟩
  · have := (h1 d hd).1; simp [hm] at this
  · have := (h1 d hd).2; simp [hm] at this
  · have := h2 d hd; simp [hm] at this
theorem setH_comm {H : Hold} {i j : Nat} (h : i ≠ j) (p q : World → Prop) : setH (setH H i p) j q = setH (setH H j q) i p := by
  funext r
  unfold setH
  by_cases h1 : r = j
  · have : r ≠ i := fun he => h (he.symm.trans h1)
    simp [h1, Ne.symm h]
  · simp [h1]
theorem ins_det {i : Ins} (hc : cls i ≠ 2) {ρ : Env} {w : World} {a b : Value} (ha : vcI P i ρ w fun u w'' => u = a ∧ w'' = w) (hb : vcI P i ρ w fun u w'' => u = b ∧ w'' = w) : a = b := by
  cases i <;> simp only [cls, ne_eq, not_true] at hc
  case mov => exact ha.1.symm.trans hb.1
  case mkf => exact ha.1.symm.trans hb.1
  all_goals
    obtain ⟨p, hp, hpa, _⟩ := seqO_ex ha
    obtain ⟨q, hq, hqb, _⟩ := seqO_ex hb
    rw [hp] at hq
    injection hq with hq
    subst hq
    exact hpa.symm.trans hqb
theorem op_det {s : St} (hc : cls s.ins ≠ 2) {ρ : Env} {w : World} {a b : Value} (ha : opS P s (fun u w'' => u = a ∧ w'' = w) ρ w) (hb : opS P s (fun u w'' => u = b ∧ w'' = w) ρ w) : a = b := by
  rcases opS_ways (P := P) s ρ with hw | hw
  · rw [hw] at ha hb; exact ins_det hc ha hb
  · rw [hw] at ha hb; exact ha.1.symm.trans hb.1
theorem comm {i j : Nat} (hij : i ≠ j) {s t : St} (hs : sts[i]? = some s) (ht : sts[j]? = some t) (hok : okp ops i j s t = true) {K : Env → World → Hold → Prop} {ρ : Env} {w : World} {H : Hold} (hHi : ∀ w, H i w)
    (h : stepE P ops sts i (stepE P ops sts j K) ρ w H) : stepE P ops sts j (stepE P ops sts i K) ρ w H := by
  simp only [okp, Bool.and_eq_true, Bool.or_eq_true, beq_iff_eq, Bool.not_eq_true'] at hok
  obtain ⟨hap, hcl⟩ := hok
  obtain ⟨a1, a2, a3⟩ := aprt_spec hap
  have eT : ∀ (ρ : Env) (v : Value) (k : Value → World → Prop) (w : World), opS P t k (upd ρ s.dst v) w = opS P t k ρ w := fun ρ v k w => opS_congr (upd_off a1 v)
  have eS : ∀ (ρ : Env) (v : Value) (k : Value → World → Prop) (w : World), opS P s k (upd ρ t.dst v) w = opS P s k ρ w := fun ρ v k w => opS_congr (upd_off a3 v)
  have eU : ∀ (ρ : Env) (u v : Value), upd (upd ρ s.dst u) t.dst v = upd (upd ρ t.dst v) s.dst u := fun ρ u v => upd_comm a2 u v
  simp only [stepE, hs, ht] at h ⊢
  simp only [eT, eU] at h
  simp only [eS]
  by_cases c1 : cls s.ins = 0
  · have n1 : ¬ cls s.ins = 1 := by omega
    have n2 : ¬ cls s.ins = 2 := by omega
    simp only [n1, n2, if_false, false_implies, true_and] at h ⊢
    obtain ⟨v, hk, hv⟩ := opW_val c1 h
    exact opS_mono (fun u w' hh => ⟨hh.1, opS_of (hv w') hh.2⟩) hk
  by_cases c2 : cls t.ins = 0
  · have n1 : ¬ cls t.ins = 1 := by omega
    have n2 : ¬ cls t.ins = 2 := by omega
    simp only [n1, n2, if_false, false_implies, true_and] at h ⊢
    obtain ⟨v0, w0, _, h0⟩ := opS_ex h
    obtain ⟨v, _, hv⟩ := opW_val c2 h0
    refine opS_of (hv w) ?_
    refine opS_mono (fun u w' hh => ⟨hh.1, ?_⟩) h
    obtain ⟨v', hk, hv'⟩ := opW_val c2 hh.2
    have : v' = v := op_det (by omega) (hv' w) (hv w)
    subst this
    exact hk
  have c3 : cls s.ins = 1 := by rcases hcl with (h | h) | h <;> omega
  have n2 : ¬ cls s.ins = 2 := by omega
  simp only [c3, if_true, n2, false_implies, true_and, show ¬ (1 : Nat) = 2 from by omega] at h ⊢
  obtain ⟨v, hk, hv⟩ := opR_val c3 h
  by_cases c4 : cls t.ins = 1
  · have m2 : ¬ cls t.ins = 2 := by omega
    simp only [c4, if_true, m2, false_implies, true_and, show ¬ (1 : Nat) = 2 from by omega] at hk ⊢
    obtain ⟨u, hk2, hu⟩ := opR_val c4 hk
    refine opS_of hu (opS_of hv ?_)
    rw [setH_comm hij] at hk2
    exact hk2
  · have c5 : reach ops fuel j i = false := by rcases hcl with (h | h) | ⟨_, h | h⟩ <;> first | omega | exact h
    simp only [c4, if_false] at hk ⊢
    refine opS_mono (fun u w' hh => ⟨fun h2 r hr => ?_, ?_⟩) hk
    · by_cases hri : r = i
      · subst hri; exact hHi w'
      · have := hh.1 h2 r hr
        simpa [setH, hri] using this
    · by_cases h2 : cls t.ins = 2
      · have hp := hh.1 h2 i c5
        simp only [setH, if_true] at hp
        exact opS_of hp hh.2
      · have : cls t.ins = 0 ∨ cls t.ins = 1 ∨ cls t.ins = 2 := by cases t.ins <;> simp [cls]
        omega
def closed (ops : Array Oper) (listed : Array Bool) : Prop := ∀ m o, ops[m]? = some o → listed.getD m false = true → ∀ e ∈ o.after, Region.binds .any e = true → listed.getD e.on false = true
theorem reach_listed {listed : Array Bool} (hc : closed ops listed) : ∀ (n m i : Nat) (o : Oper), ops[m]? = some o → (∀ e ∈ o.after, Region.binds .any e = true → listed.getD e.on false = true) → reach ops n m i = true → listed.getD i false = true
  | 0, _, _, _, _, _, h => by cases h
  | n + 1, m, i, o, ho, he, h => by
    simp only [reach, ho, Array.any_eq_true] at h
    obtain ⟨x, hx, h⟩ := h
    simp only [Bool.and_eq_true, Bool.or_eq_true, beq_iff_eq] at h
    obtain ⟨hb, h⟩ := h
    have hl := he _ (Array.getElem_mem hx) hb
    rcases h with h | ⟨_, h⟩
    · rw [← h]; exact hl
    · cases ho' : ops[o.after[x].on]? with
      | none =>
        cases n with
        | zero => cases h
        | succ n => simp [reach, ho'] at h
      | some o' => exact reach_listed hc n _ i o' ho' (fun e hee hbb => hc _ o' ho' hl e hee hbb) h
theorem closed_set {listed : Array Bool} {j : Nat} (hc : closed ops listed) (hj : j ∈ Region.ready .any ops listed) : closed ops (listed.setIfInBounds j true) := by
  intro m o ho hm e he hb
  obtain ⟨h0, oj, hoj, hall⟩ := mem_ready.1 hj
  have mono : ∀ x, listed.getD x false = true → (listed.setIfInBounds j true).getD x false = true := fun x hx => getD_set_true hx
  by_cases hmj : m = j
  · subst hmj
    rw [hoj] at ho
    injection ho with ho
    subst ho
    exact mono _ (hall e he hb)
  · refine mono _ (hc m o ho ?_ e he hb)
    rwa [getD_set_ne false (Ne.symm hmj)] at hm
theorem getD_false {listed : Array Bool} {j : Nat} (h : listed.getD j true = false) : listed.getD j false = false := by
  rcases Nat.lt_or_ge j listed.size with h' | h'
  · simp [h'] at h ⊢; exact h
  · simp [Array.getElem?_eq_none h'] at h ⊢
theorem stepE_monoH {i : Nat} {K K' : Env → World → Hold → Prop} {ρ : Env} {w : World} {H : Hold} (hk : ∀ ρ w H', (∀ r, r ≠ i → H' r = H r) → K ρ w H' → K' ρ w H') (h : stepE P ops sts i K ρ w H) : stepE P ops sts i K' ρ w H := by
  unfold stepE at *
  split at h
  · exact hk _ _ _ (fun _ _ => rfl) h
  · refine opS_mono (fun v w' ⟨h1, h2⟩ => ⟨h1, hk _ _ _ (fun r hr => ?_) h2⟩) h
    split
    · simp [setH, hr]
    · rfl
theorem any_first {Kf : Env → World → Prop} {i : Nat} {s : St} (hs : sts[i]? = some s) (hlen : ∀ (j : Nat) (o : Oper), ops[j]? = some o → ∃ t, sts[j]? = some t) : ∀ (n : Nat) (listed : Array Bool) (ρ : Env) (w : World) (H : Hold),
    closed ops listed → (∀ r, listed.getD r true = false → ∀ w, H r w) → (∀ j t, sts[j]? = some t → j ≠ i → listed.getD j true = false → okp ops i j s t = true ∨ reach ops fuel j i = true) →
    i ∈ Region.ready .any ops listed → stepE P ops sts i (vcAny P ops sts Kf n (listed.setIfInBounds i true)) ρ w H → vcAny P ops sts Kf (n + 1) listed ρ w H := by
  intro n
  induction n with
  | zero =>
    intro listed ρ w H hc hH hfree hr h
    refine ⟨fun he => (by rw [he] at hr; cases hr), fun j hj => ?_⟩
    by_cases hji : j = i
    · subst hji; exact h
    · obtain ⟨_, _, _, h0⟩ := stepE_ex h
      have := ready_mono hj hji
      rw [h0.1] at this
      cases this
  | succ n ih =>
    intro listed ρ w H hc hH hfree hr h
    refine ⟨fun he => (by rw [he] at hr; cases hr), fun j hj => ?_⟩
    by_cases hji : j = i
    · subst hji; exact h
    · obtain ⟨hju, oj, hoj, hall⟩ := mem_ready.1 hj
      obtain ⟨hiu, _⟩ := mem_ready.1 hr
      obtain ⟨t, ht⟩ := hlen j oj hoj
      have hok : okp ops i j s t = true := by
        rcases hfree j t ht hji hju with h1 | h1
        · exact h1
        · have := reach_listed hc fuel j i oj hoj hall h1
          rw [getD_false hiu] at this
          cases this
      have h1 : stepE P ops sts i (stepE P ops sts j (vcAny P ops sts Kf n ((listed.setIfInBounds i true).setIfInBounds j true))) ρ w H :=
        stepE_mono (fun ρ w H hh => hh.2 j (ready_mono hj hji)) h
      have h2 := comm (Ne.symm hji) hs ht hok (hH i hiu) h1
      refine stepE_monoH (fun ρ' w' H' hH' hh => ?_) h2
      refine ih (listed.setIfInBounds j true) ρ' w' H' (closed_set hc hj) ?_ ?_ (ready_mono hr (Ne.symm hji)) ?_
      · intro r hr'
        have hrj : r ≠ j := by
          intro he
          subst he
          have hlt : r < listed.size := by
            rcases Nat.lt_or_ge r listed.size with h' | h'
            · exact h'
            · simp [Array.getElem?_eq_none h'] at hju
          simp [hlt] at hr'
        rw [hH' r hrj]
        rw [getD_set_ne true (Ne.symm hrj)] at hr'
        exact hH r hr'
      · intro k u hu hki hun
        refine hfree k u hu hki ?_
        by_cases hjk : j = k
        · subst hjk; exact hju
        · rwa [getD_set_ne true hjk] at hun
      · rw [Array.setIfInBounds_comm _ _ hji]
        exact hh
inductive Pl where
  | done | go (i : Nat) (p : Pl) | both (i : Nat) (p q : Pl)
def Pl.siz : Pl → Nat | .done => 0 | .go _ p => p.siz + 1 | .both _ p _ => p.siz + 1
def vcPl (P : Program) (ops : Array Oper) (sts : List St) (Kf : Env → World → Prop) : Pl → Env → World → Hold → Prop
  | .done, ρ, w, _ => Kf ρ w
  | .go i p, ρ, w, H => stepE P ops sts i (vcPl P ops sts Kf p) ρ w H
  | .both i p q, ρ, w, H => stepE P ops sts i (vcPl P ops sts Kf p) ρ w H ∧ vcPl P ops sts Kf q ρ w H
def freeB (ops : Array Oper) (sts : List St) (listed : Array Bool) (i : Nat) : Bool :=
  (List.range ops.size).all fun j => j == i || listed.getD j true || (match sts[i]?, sts[j]? with | some s, some t => okp ops i j s t || reach ops fuel j i | _, _ => false)
def canB (ops : Array Oper) (sts : List St) : Array Bool → List Nat → Pl → Bool
  | listed, skip, .done => skip.isEmpty && (Region.ready .any ops listed).isEmpty
  | listed, skip, .go i p => (Region.ready .any ops listed).contains i && (if skip.isEmpty then freeB ops sts listed i else (Region.ready .any ops listed).all fun j => skip.contains j || j == i) && canB ops sts (listed.setIfInBounds i true) [] p
  | listed, skip, .both i p q => (Region.ready .any ops listed).contains i && canB ops sts (listed.setIfInBounds i true) [] p && canB ops sts listed (i :: skip) q && q.siz == p.siz + 1
theorem in_bounds {listed : Array Bool} {i : Nat} (h : listed.getD i true = false) : i < listed.size := by
  rcases Nat.lt_or_ge i listed.size with h' | h'
  · exact h'
  · simp [Array.getElem?_eq_none h'] at h
theorem free_set {listed : Array Bool} {i : Nat} {H H' : Hold} (hiu : listed.getD i true = false) (hH : ∀ r, listed.getD r true = false → ∀ w, H r w) (hH' : ∀ r, r ≠ i → H' r = H r) : ∀ r, (listed.setIfInBounds i true).getD r true = false → ∀ w, H' r w := by
  intro x hx
  have hxi : x ≠ i := by
    intro he
    subst he
    have hlt := in_bounds hiu
    simp [hlt] at hx
  rw [hH' x hxi]
  rw [getD_set_ne true (Ne.symm hxi)] at hx
  exact hH x hx
theorem any_plan {Kf : Env → World → Prop} (hlen : ∀ (j : Nat) (o : Oper), ops[j]? = some o → ∃ t, sts[j]? = some t) (hlen' : ∀ (j : Nat) (t : St), sts[j]? = some t → j < ops.size) : ∀ (p : Pl) (listed : Array Bool) (skip : List Nat) (ρ : Env) (w : World) (H : Hold),
    closed ops listed → (∀ r, listed.getD r true = false → ∀ w, H r w) → canB ops sts listed skip p = true → vcPl P ops sts Kf p ρ w H →
    (skip = [] → vcAny P ops sts Kf p.siz listed ρ w H) ∧ (skip ≠ [] → 1 ≤ p.siz ∧ ∀ j ∈ Region.ready .any ops listed, j ∉ skip → stepE P ops sts j (vcAny P ops sts Kf (p.siz - 1) (listed.setIfInBounds j true)) ρ w H)
  | .done, listed, skip, ρ, w, H, _, _, hb, h => by
    simp only [canB, Bool.and_eq_true, List.isEmpty_iff] at hb
    exact ⟨fun _ => ⟨hb.2, h⟩, fun hn => (hn hb.1).elim⟩
  | .go i p, listed, skip, ρ, w, H, hc, hH, hb, h => by
    simp only [canB, Bool.and_eq_true] at hb
    obtain ⟨⟨h1, h2⟩, h3⟩ := hb
    have hr : i ∈ Region.ready .any ops listed := by simpa using h1
    obtain ⟨hiu, oi, hoi, _⟩ := mem_ready.1 hr
    obtain ⟨s, hs⟩ := hlen i oi hoi
    have step : stepE P ops sts i (vcAny P ops sts Kf p.siz (listed.setIfInBounds i true)) ρ w H :=
      stepE_monoH (fun ρ' w' H' hH' hh => (any_plan hlen hlen' p _ [] ρ' w' H' (closed_set hc hr) (free_set hiu hH hH') h3 hh).1 rfl) h
    refine ⟨fun he => ?_, fun hn => ⟨by simp [Pl.siz], fun j hj hjs => ?_⟩⟩
    · subst he
      simp only [List.isEmpty_nil, if_true] at h2
      refine any_first hs hlen p.siz listed ρ w H hc hH ?_ hr step
      intro j t ht hji hun
      have := List.all_eq_true.1 h2 j (List.mem_range.2 (hlen' j t ht))
      simp only [hs, ht, hun, Bool.or_eq_true, beq_iff_eq, hji, false_or, Bool.false_eq_true] at this
      exact this
    · have hne : skip.isEmpty = false := by cases skip with | nil => exact (hn rfl).elim | cons => rfl
      rw [hne] at h2
      simp only [Bool.false_eq_true, if_false, List.all_eq_true] at h2
      have := h2 j hj
      simp only [Bool.or_eq_true, beq_iff_eq, List.contains_iff_mem, hjs, false_or] at this
      subst this
      exact step
  | .both i p q, listed, skip, ρ, w, H, hc, hH, hb, h => by
    simp only [canB, Bool.and_eq_true, beq_iff_eq] at hb
    obtain ⟨⟨⟨h1, h2⟩, h3⟩, h4⟩ := hb
    have hr : i ∈ Region.ready .any ops listed := by simpa using h1
    obtain ⟨hiu, oi, hoi, _⟩ := mem_ready.1 hr
    have step : stepE P ops sts i (vcAny P ops sts Kf p.siz (listed.setIfInBounds i true)) ρ w H :=
      stepE_monoH (fun ρ' w' H' hH' hh => (any_plan hlen hlen' p _ [] ρ' w' H' (closed_set hc hr) (free_set hiu hH hH') h2 hh).1 rfl) h.1
    have rest := (any_plan hlen hlen' q listed (i :: skip) ρ w H hc hH h3 h.2).2 (by simp)
    have hq : q.siz - 1 = p.siz := by omega
    rw [hq] at rest
    have all : ∀ j ∈ Region.ready .any ops listed, j ∉ skip → stepE P ops sts j (vcAny P ops sts Kf p.siz (listed.setIfInBounds j true)) ρ w H := by
      intro j hj hjs
      by_cases hji : j = i
      · subst hji; exact step
      · exact rest.2 j hj (by simp [hji, hjs])
    refine ⟨fun he => ?_, fun hn => ⟨by simp [Pl.siz], all⟩⟩
    subst he
    exact ⟨fun he => (by rw [he] at hr; cases hr), fun j hj => all j hj (by simp)⟩
inductive D where
  | ops (l : List St) | alt (l : List St) (a b : D)
def vcD (P : Program) : D → Post → Env → World → Prop
  | .ops l, Q, ρ, w => vcL P l Q ρ w
  | .alt l a b, Q, ρ, w => vcL P l (fun _ ρ w => vcD P a Q ρ w ∧ vcD P b Q ρ w) ρ w
def D.pre (l : List St) : D → D
  | .ops r => .ops (l ++ r)
  | .alt r a b => .alt (l ++ r) a b
theorem vcL_append (l r : List St) (Q : Post) : ∀ (ρ : Env) (w : World), vcL P (l ++ r) Q ρ w = vcL P l (fun _ ρ w => vcL P r Q ρ w) ρ w := by
  induction l with
  | nil => intro ρ w; rfl
  | cons s l ih =>
    intro ρ w
    rw [List.cons_append, vcL_cons, vcL_cons]
    simp only [ih]
theorem vcD_pre (l : List St) (Q : Post) (ρ : Env) (w : World) : ∀ d, vcD P (D.pre l d) Q ρ w = vcL P l (fun _ ρ w => vcD P d Q ρ w) ρ w
  | .ops r => vcL_append l r Q ρ w
  | .alt r a b => vcL_append l r _ ρ w
def chkOf (t : St) : Option St :=
  match t.dst, t.ins with
  | some d, .load x => some ⟨none, t.grd, .chk x d⟩
  | some d, .loadN n x => some ⟨none, t.grd, .chkN n x d⟩
  | _, _ => none
def chks (ops : Array Oper) (sts : List St) (i : Nat) : List Nat → List St
  | [] => []
  | r :: rest => match (sts[r]?).bind chkOf with
    | some c => if reach ops fuel i r then chks ops sts i rest else c :: chks ops sts i rest
    | none => chks ops sts i rest
def okD (sts : List St) (prev : List Nat) (s : St) : Bool :=
  prev.all (fun r => match (sts[r]?).bind chkOf with | some c => (dstL s).all fun d => !(stR c).elem d | none => true) &&
  (if cls s.ins = 1 then (chkOf s).isSome && (dstL s).all fun d => !(stR s).elem d else true)
def stepD (ops : Array Oper) (sts : List St) (prev : List Nat) (i : Nat) (r : Option D) : Option D :=
  (sts[i]?).bind fun s => if okD sts prev s then r.map (D.pre (s :: (if cls s.ins = 2 then chks ops sts i prev else []))) else none
def build (ops : Array Oper) (sts : List St) : List Nat → Pl → Option D
  | _, .done => some (.ops [])
  | prev, .go i p => stepD ops sts prev i (build ops sts (i :: prev) p)
  | prev, .both i p q => (stepD ops sts prev i (build ops sts (i :: prev) p)).bind fun a => (build ops sts prev q).map fun b => .alt [] a b
abbrev tru : Value → World → Prop := fun _ _ => True
def Inv (P : Program) (sts : List St) (prev : List Nat) (H : Hold) (ρ : Env) : Prop :=
  ∀ r, (∀ w, H r w) ∨ (r ∈ prev ∧ ∃ c, (sts[r]?).bind chkOf = some c ∧ ∀ w, opS P c tru ρ w → H r w)
theorem chks_run {i : Nat} {l : List St} {Q : Post} {ρ : Env} {w : World} : ∀ {prev : List Nat}, vcL P (chks ops sts i prev ++ l) Q ρ w → (∀ r c, r ∈ prev → (sts[r]?).bind chkOf = some c → reach ops fuel i r = false → opS P c tru ρ w) ∧ vcL P l Q ρ w
  | [], h => ⟨fun _ _ hr => (by cases hr), h⟩
  | x :: rest, h => by
    unfold chks at h
    split at h
    · rename_i c hc
      split at h
      · rename_i hre
        obtain ⟨h1, h2⟩ := chks_run h
        refine ⟨fun r c' hr hc' hf => ?_, h2⟩
        rcases List.mem_cons.1 hr with rfl | hr
        · rw [hre] at hf; cases hf
        · exact h1 r c' hr hc' hf
      · rename_i hre
        rw [List.cons_append, vcL_cons] at h
        have hd : c.dst = none ∧ ∀ k, opS P c k ρ w → opS P c tru ρ w ∧ k undef w := by
          obtain ⟨s, hs, hcs⟩ := Option.bind_eq_some_iff.1 hc
          have hins : (∃ y d, c = ⟨none, s.grd, .chk y d⟩) ∨ (∃ n y d, c = ⟨none, s.grd, .chkN n y d⟩) := by
            unfold chkOf at hcs
            split at hcs
            · injection hcs with hcs; exact .inl ⟨_, _, hcs.symm⟩
            · injection hcs with hcs; exact .inr ⟨_, _, _, hcs.symm⟩
            · cases hcs
          have hi : ∀ k, vcI P c.ins ρ w k → vcI P c.ins ρ w tru ∧ k undef w := by
            intro k hh
            rcases hins with ⟨y, d, rfl⟩ | ⟨n, y, d, rfl⟩ <;> exact ⟨⟨hh.1, trivial⟩, hh.2⟩
          refine ⟨?_, fun k hh => ?_⟩
          · rcases hins with ⟨y, d, rfl⟩ | ⟨n, y, d, rfl⟩ <;> rfl
          · unfold opS at hh ⊢
            split at hh
            · rename_i hg; exact hi k hh
            · rename_i hg
              unfold grdP at hh ⊢
              split at hh
              · rename_i hv
                split at hh
                · rename_i hb; rw [if_pos hb]; exact ⟨(hi k hh).1, (hi k hh).2⟩
                · rename_i hb; rw [if_neg hb]; exact ⟨trivial, hh⟩
              · exact ⟨trivial, hh⟩
        obtain ⟨h1, h2⟩ := hd.2 _ h
        rw [hd.1] at h2
        obtain ⟨h3, h4⟩ := chks_run h2
        refine ⟨fun r c' hr hc' hf => ?_, h4⟩
        rcases List.mem_cons.1 hr with rfl | hr
        · rw [hc] at hc'; injection hc' with hc'; subst hc'; exact h1
        · exact h3 r c' hr hc' hf
    · rename_i hn
      obtain ⟨h1, h2⟩ := chks_run h
      refine ⟨fun r c' hr hc' hf => ?_, h2⟩
      rcases List.mem_cons.1 hr with rfl | hr
      · rw [hn] at hc'; cases hc'
      · exact h1 r c' hr hc' hf
theorem dst_off {s c : St} (h : (dstL s).all (fun d => !(stR c).elem d) = true) : ∀ d, d ∈ dstL s → d ∉ stR c := by
  intro d hd hm
  have := List.all_eq_true.1 h d hd
  simp [hm] at this
theorem inv_upd {prev : List Nat} {H : Hold} {ρ : Env} {s : St} {i : Nat} (hI : Inv P sts prev H ρ) (hok : okD sts prev s = true) (v : Value) : Inv P sts (i :: prev) H (upd ρ s.dst v) := by
  simp only [okD, Bool.and_eq_true] at hok
  intro r
  rcases hI r with h | ⟨hr, c, hc, h⟩
  · exact .inl h
  · refine .inr ⟨List.mem_cons_of_mem _ hr, c, hc, fun w hw => h w ?_⟩
    have := List.all_eq_true.1 hok.1 r hr
    rw [hc] at this
    rwa [opS_congr (ρ := upd ρ s.dst v) (ρ' := ρ) (upd_off (dst_off this) v)] at hw
theorem chk_hold {s c : St} {ρ : Env} {w0 w : World} {v : Value} (hc : chkOf s = some c) (hoff : (dstL s).all (fun d => !(stR s).elem d) = true) (hv : opS P s (fun u w'' => u = v ∧ w'' = w0) ρ w0)
    (hw : opS P c tru (upd ρ s.dst v) w) : opS P s (fun u w3 => u = v ∧ w3 = w) ρ w := by
  have hcong := fun k => opS_congr (P := P) (s := s) (k := k) (w := w) (upd_off (ρ := ρ) (dst_off hoff) v)
  rw [← hcong]
  have key : ∀ (d : Nat) (hd : s.dst = some d) (hg : c.grd = s.grd) (hi : vcI P c.ins (upd ρ (some d) v) w tru → vcI P s.ins (upd ρ (some d) v) w fun u w3 => u = upd ρ (some d) v d ∧ w3 = w),
      opS P s (fun u w3 => u = v ∧ w3 = w) (upd ρ s.dst v) w := by
    intro d hd hg hi
    have hvd : upd ρ (some d) v d = v := by simp [upd, up]
    rw [hvd] at hi
    rw [hd] at hw ⊢
    unfold opS at hw hv ⊢
    rw [hg] at hw
    cases hgr : s.grd with
    | none =>
      simp only [hgr] at hw ⊢
      exact hi hw
    | some gb =>
      obtain ⟨g, b⟩ := gb
      have hgv : upd ρ (some d) v g = ρ g := by
        have hne : g ≠ d := fun he => dst_off hoff d (by simp [dstL, hd]) (by simp [stR, hgr, he])
        simp [upd, up, hne]
      simp only [hgr, hgv] at hw hv ⊢
      unfold grdP at hw hv ⊢
      split
      · rename_i b' hb'
        simp only [hb'] at hw hv
        split
        · rename_i hbb; rw [if_pos hbb] at hw; exact hi hw
        · rename_i hbb; rw [if_neg hbb] at hv; exact ⟨hv.1, trivial⟩
      · rename_i hnb
        have : ∀ X : Prop, (match ρ g with | Value.bool b_1 => if b_1 = b then X else undef = v ∧ True | x => undef = v ∧ True) → undef = v := by
          intro X hx
          split at hx
          · rename_i b' hb'; exact (hnb b' hb').elim
          · exact hx.1
        exact ⟨this _ hv, trivial⟩
  obtain ⟨d, g, i⟩ := s
  unfold chkOf at hc
  split at hc
  · rename_i d' x hd hi
    injection hc with hc
    subst hc
    refine key d' hd rfl ?_
    simp only at hi
    subst hi
    intro hh
    show seqO _ _
    rw [hh.1]
    exact ⟨rfl, rfl⟩
  · rename_i d' n x hd hi
    injection hc with hc
    subst hc
    refine key d' hd rfl ?_
    simp only at hi
    subst hi
    intro hh
    show seqO _ _
    rw [hh.1]
    exact ⟨rfl, rfl⟩
  · cases hc
theorem buildD_ok {Q : Post} : ∀ (p : Pl) (prev : List Nat) (d : D) (ρ : Env) (w : World) (H : Hold), build ops sts prev p = some d → Inv P sts prev H ρ → vcD P d Q ρ w → vcPl P ops sts (fun ρ w => Q .normal ρ w) p ρ w H := by
  have one : ∀ (i : Nat) (p : Pl) (prev : List Nat) (d : D) (ρ : Env) (w : World) (H : Hold), (∀ (prev : List Nat) (d : D) (ρ : Env) (w : World) (H : Hold), build ops sts prev p = some d → Inv P sts prev H ρ → vcD P d Q ρ w → vcPl P ops sts (fun ρ w => Q .normal ρ w) p ρ w H) →
      stepD ops sts prev i (build ops sts (i :: prev) p) = some d → Inv P sts prev H ρ → vcD P d Q ρ w → stepE P ops sts i (vcPl P ops sts (fun ρ w => Q .normal ρ w) p) ρ w H := by
    intro i p prev d ρ w H ih hb hI h
    obtain ⟨s, hs, hb⟩ := Option.bind_eq_some_iff.1 hb
    split at hb
    · rename_i hok
      obtain ⟨d', hd', rfl⟩ := Option.map_eq_some_iff.1 hb
      rw [vcD_pre, vcL_cons] at h
      simp only [stepE, hs]
      by_cases c1 : cls s.ins = 1
      · have n2 : ¬ cls s.ins = 2 := by omega
        simp only [n2, if_false, vcL] at h
        simp only [c1, if_true]
        obtain ⟨v, hk, hv⟩ := opR_val c1 h
        refine opS_of hv ⟨fun h2 => (by omega), ih _ _ _ _ _ hd' ?_ hk⟩
        intro r
        by_cases hri : r = i
        · subst hri
          have hok2 := hok
          simp only [okD, Bool.and_eq_true, c1, if_true] at hok2
          obtain ⟨_, hcs, hoff⟩ := hok2
          obtain ⟨c, hc⟩ := Option.isSome_iff_exists.1 hcs
          refine .inr ⟨by simp, c, by rw [hs]; exact hc, fun w' hw' => ?_⟩
          simp only [setH, if_true]
          exact chk_hold hc hoff hv hw'
        · have := inv_upd (i := i) hI hok v r
          simpa [setH, hri] using this
      · simp only [c1, if_false]
        refine opS_mono (fun v w' hh => ?_) h
        have hI' := inv_upd (i := i) hI hok v
        by_cases c2 : cls s.ins = 2
        · simp only [c2, if_true] at hh
          have hh' : vcL P (chks ops sts i prev ++ []) (fun _ ρ w => vcD P d' Q ρ w) (upd ρ s.dst v) w' := by rw [List.append_nil]; exact hh
          obtain ⟨h1, h2⟩ := chks_run hh'
          refine ⟨fun _ r hr => ?_, ih _ _ _ _ _ hd' hI' h2⟩
          rcases hI r with h | ⟨hp, c, hc, hw⟩
          · exact h w'
          · rcases hI' r with h | ⟨_, c', hc', hw'⟩
            · exact h w'
            · exact hw' w' (by rw [hc] at hc'; injection hc' with hc'; subst hc'; exact h1 r c hp hc hr)
        · simp only [c2, if_false, vcL] at hh
          exact ⟨fun h => (c2 h).elim, ih _ _ _ _ _ hd' hI' hh⟩
    · cases hb
  intro p
  induction p with
  | done => intro prev d ρ w H hb _ h; injection hb with hb; subst hb; exact h
  | go i p ih => intro prev d ρ w H hb hI h; exact one i p prev d ρ w H ih hb hI h
  | both i p q ihp ihq =>
    intro prev d ρ w H hb hI h
    obtain ⟨a, ha, hb⟩ := Option.bind_eq_some_iff.1 hb
    obtain ⟨b, hb2, rfl⟩ := Option.map_eq_some_iff.1 hb
    exact ⟨one i p prev a ρ w H ihp ha hI h.1, ihq prev b ρ w H hb2 hI h.2⟩
theorem op_ok {ro : Option Nat} {o : Oper} {i : Nat} {Q : Post} {K : Act → World → Prop} {ρ : Env} {w : World} (hi : ops[i]? = some o) (hd : o.dst ≠ some N) (h : opS P (trO P N ops o) (fun v w' => K (act N (upd ρ o.dst v)) w') ρ w) : wpOpIn (fz ro) 0 P ops (lift N Q) i K (act N ρ) w := by
  unfold wpOpIn
  rw [hi]
  simp only
  have run : vcI P (trI P N o) ρ w (fun v w' => K (act N (upd ρ o.dst v)) w') → Oper.wpIn (fz ro) 0 P o (act N ρ) w K (lift N Q) := by
    intro hh
    refine Goes.wp (trI_nd hh) (trI_ok (vcI_mono (fun v w' hv => ?_) hh))
    rw [act_put _ _ _ _ hd]
    exact hv
  cases hg : o.guard with
  | none =>
    simp only [opS, trO, hg] at h
    rw [if_pos (by simp [Region.wanted, hg])]
    exact run h
  | some jw =>
    obtain ⟨j, want⟩ := jw
    cases hb : (ops[j]?).bind (·.dst) with
    | none => simp only [opS, trO, hg, hb] at h; exact h.elim
    | some s =>
      by_cases hs : s < N
      · simp only [opS, trO, hg, hb, hs, if_true] at h
        have hy := act_yield (ρ := ρ) hb hs
        have hwant : Region.wanted o (yielded ops (act N ρ).tmps) = (boolOf (ρ s) == some want) := by
          simp only [Region.wanted, hg, hy]
        rw [hwant]
        have hskip : K (act N (upd ρ o.dst undef)) w → K ((act N ρ).put o.dst undef) w := by
          intro hh
          rw [act_put _ _ _ _ hd]
          exact hh
        unfold grdP at h
        split at h
        · rename_i b hv
          split at h
          · rename_i hbw; subst hbw
            rw [if_pos (by simp [hv, boolOf])]
            exact run h
          · rename_i hbw
            rw [if_neg (by simp [hv, boolOf, hbw])]
            exact ⟨fun _ _ => trivial, hskip h⟩
        · rename_i hv
          rw [if_neg (by
            have : boolOf (ρ s) = none := by
              unfold boolOf
              split
              · rename_i b hb'; exact (hv b hb').elim
              · rfl
            simp [this])]
          exact ⟨fun _ _ => trivial, hskip h⟩
      · simp only [opS, trO, hg, hb, hs, if_false] at h; exact h.elim
theorem trO_dst (o : Oper) : (trO P N ops o).dst = o.dst := by
  unfold trO
  split
  · rfl
  · split
    · split <;> rfl
    · rfl
abbrev trOs (P : Program) (N : Nat) (ops : Array Oper) : List St := ops.toList.map (trO P N ops)
theorem any_ok {ro : Option Nat} {Q : Post} (hd : dOk N ops.toList = true) : ∀ (n : Nat) (listed : Array Bool) (ρ : Env) (w : World) (H : Hold), vcAny P ops (trOs P N ops) (fun ρ w => Q .normal ρ w) n listed ρ w H → wpAnyIn (fz ro) 0 P .any ops (lift N Q) n listed (act N ρ) w
  | 0, listed, ρ, w, H, h => ⟨h.1, ρ, rfl, h.2⟩
  | n + 1, listed, ρ, w, H, h => by
    refine ⟨fun he => ⟨ρ, rfl, h.1 he⟩, fun i hi => ?_⟩
    have h2 := h.2 i hi
    obtain ⟨_, o, ho, _⟩ := mem_ready.1 hi
    have hs : (trOs P N ops)[i]? = some (trO P N ops o) := by simp [trOs, ho]
    simp only [stepE, hs] at h2
    refine op_ok ho (by simpa using List.all_eq_true.1 hd o (List.mem_of_getElem? (by simpa using ho))) (opS_mono (fun v w' hh => ?_) h2)
    have := any_ok (ro := ro) (Q := Q) hd n _ _ _ _ hh.2
    rw [trO_dst] at this
    exact this
def drawD (P : Program) (N : Nat) (ops : Array Oper) (p : Pl) : Option D :=
  if P.follows .mixedOrders && (dOk N ops.toList && (p.siz == ops.size && canB ops (trOs P N ops) (Array.replicate ops.size false) [] p)) then build ops (trOs P N ops) [] p else none
theorem draw_ok {ro : Option Nat} {id : Nat} {p : Pl} {d : D} {Q : Post} {ρ : Env} {w : World} (hd : drawD P N ops p = some d) (h : vcD P d Q ρ (w.drewN 1)) : (Code.region id ops true).wpIn (fz ro) 0 P (lift N Q) (act N ρ) w := by
  unfold drawD at hd
  split at hd
  · rename_i hc
    simp only [Bool.and_eq_true, beq_iff_eq] at hc
    obtain ⟨hm, hdk, hsz, hcan⟩ := hc
    refine wpIn_region_any hm ?_
    rw [← hsz]
    have h1 := buildD_ok (Q := Q) p [] d ρ (w.drewN 1) (fun _ _ => True) hd (fun r => .inl fun _ => trivial) h
    have hlen : ∀ (j : Nat) (o : Oper), ops[j]? = some o → ∃ t, (trOs P N ops)[j]? = some t := fun j o ho => ⟨_, by simp [trOs, ho]; rfl⟩
    have hlen' : ∀ (j : Nat) (t : St), (trOs P N ops)[j]? = some t → j < ops.size := by
      intro j t ht
      rcases Nat.lt_or_ge j ops.size with h | h
      · exact h
      · have : (trOs P N ops)[j]? = none := by simp [trOs, Array.getElem?_eq_none h]
        rw [this] at ht
        cases ht
    have hcl : closed ops (Array.replicate ops.size false) := by
      intro m o _ hm
      have : (Array.replicate ops.size false).getD m false = false := by
        simp only [Array.getD_eq_getD_getElem?, Array.getElem?_replicate]
        split <;> rfl
      rw [this] at hm
      cases hm
    have h2 := (any_plan hlen hlen' p _ [] ρ (w.drewN 1) _ hcl (fun _ _ _ => trivial) hcan h1).1 rfl
    rw [hsz] at h2 ⊢
    exact any_ok hdk _ _ _ _ _ h2
  · cases hd
end
end Go.Proofs.YtdlimikcgdgfpaaGreatDoor.E
namespace Go.Proofs.YtdlimikcgdgfpaaGreatDoor.E
open Go.RowKit
def dfrX (N : Nat) (o : Oper) : Option Arg := match o.op, o.guard, o.dst with
  | .defer c, none, none => (match c.callee with | .value f => if c.args = #[] then trA N f else none | _ => none)
  | _, _, _ => none
def trOd (P : Program) (N : Nat) (ops : Array Oper) (o : Oper) : St := match dfrX N o with
  | some x => ⟨some N, none, .gen .dfr [x, .t N]⟩
  | none => trO P N ops o
def isDfr (s : St) : Bool := match s.ins with | .gen .dfr _ => true | _ => false
inductive S where
  | skip | ops (l : List St) | draw (d : D)
  | seq (a b : S) | cond (c : Arg) (a b : S) | blk (id : Nat) (a : S) | loop (a : S) | exit (id : Nat) | ret | bad
  | rng (N : Nat) (x : Arg) (ps : Array Nat) (as bd : Code) (a b : S)
def noR : S → Bool
  | .seq a b => noR a && noR b
  | .cond _ a b => noR a && noR b
  | .blk _ a => noR a
  | .loop a => noR a
  | .rng .. => false
  | .ops l => l.all fun s => !isDfr s
  | _ => true
abbrev Hints := List (Nat × Pl)
def hintAt : Hints → Nat → Pl
  | [], _ => .done
  | (i, p) :: r, n => if i = n then p else hintAt r n
def trS (P : Program) (N : Nat) (hs : Hints) : Code → S
  | .skip => .skip
  | .region _ ops false => if dOk N ops.toList then .ops (ops.toList.map (trOd P N ops)) else .bad
  | .region id ops true => match drawD P N ops (hintAt hs id) with | some d => .draw d | none => .bad
  | .seq a b => .seq (trS P N hs a) (trS P N hs b)
  | .cond c a b => match trA N c with | some c => .cond c (trS P N hs a) (trS P N hs b) | none => .bad
  | .block id a => .blk id (trS P N hs a)
  | .loop a => .loop (trS P N hs a)
  | .exit id => .exit id
  | .ret => .ret
  | .scope a => trS P N hs a
  | .label _ => .skip
  | .rangeFunc g ps as bd => match trA N g with | some x => if ps.all (fun p => decide (p < N)) && (noR (trS P N hs as) && noR (trS P N hs bd)) then .rng N x ps as bd (trS P N hs as) (trS P N hs bd) else .bad | none => .bad
  | _ => .bad
def recL (N : Nat) (ρ : Env) (ps : Array Nat) (as bd : Code) (D fn : Nat) (st : LoopState) : Loop := { state := st, pending := none, fn := fn, tmps := (act N ρ).tmps, params := ps, assign := as, body := bd, defers := D }
def rngP (P : Program) (N : Nat) (x : Value) (ps : Array Nat) (as bd : Code) (ρ : Env) (w : World) (k : World → Prop) : Prop :=
  match x with
  | .func (.func g) first cap => okFn P g = true ∧ ∀ fn, callP P g (first.toList ++ [.func (.yield (size w + 1)) #[] #[]] ++ cap.toList) ((w.alloc (.deferred (some []))).alloc (.loop (recL N ρ ps as bd (size w) fn .ready))) fun _ w' =>
      w'.heap[size w + 1]? = some (.loop (recL N ρ ps as bd (size w) fn .ready)) ∧ k (w'.putObj (size w + 1) (.loop (recL N ρ ps as bd (size w) fn .exhausted)))
  | _ => False
def vcS (P : Program) : S → Post → Env → World → Prop
  | .skip, Q, ρ, w => Q .normal ρ w
  | .ops l, Q, ρ, w => vcL P l Q ρ w
  | .draw d, Q, ρ, w => vcD P d Q ρ (w.drewN 1)
  | .seq a b, Q, ρ, w => vcS P a (thenQ (vcS P b Q) Q) ρ w
  | .cond c a b, Q, ρ, w => condP (c.ev ρ) (vcS P a Q ρ w) (vcS P b Q ρ w)
  | .blk id a, Q, ρ, w => vcS P a (blkQ id Q) ρ w
  | .loop a, Q, ρ, w => ∃ (I : Nat → Env → World → Prop), (∃ n, I n ρ w) ∧ ∀ n ρ w, I n ρ w → vcS P a (thenQ (fun ρ' w' => ∃ n', n' < n ∧ I n' ρ' w') Q) ρ w
  | .exit id, Q, ρ, w => Q (.exit id) ρ w
  | .ret, Q, ρ, w => Q .ret ρ w
  | .bad, _, _, _ => False
  | .rng N x ps as bd _ _, Q, ρ, w => rngP P N (x.ev ρ) ps as bd ρ w fun w' => Q .normal (up ρ N (consM (.int .i64 (size w)) (ρ N))) w'
section
variable {P : Program} {N : Nat} {hs : Hints} {ρ : Env} {w : World}
theorem vcD_mono : ∀ {d : D} {Q Q' : Post} {ρ : Env} {w : World}, (∀ e ρ w, Q e ρ w → Q' e ρ w) → vcD P d Q ρ w → vcD P d Q' ρ w
  | .ops l, _, _, _, _, hq, h => vcL_mono hq h
  | .alt l a b, Q, Q', ρ, w, hq, h => vcL_mono (Q := fun _ ρ w => vcD P a Q ρ w ∧ vcD P b Q ρ w) (Q' := fun _ ρ w => vcD P a Q' ρ w ∧ vcD P b Q' ρ w) (fun _ _ _ h => ⟨vcD_mono hq h.1, vcD_mono hq h.2⟩) h
theorem rngP_mono {x : Value} {ps : Array Nat} {as bd : Code} {k k' : World → Prop} (hk : ∀ w, k w → k' w) (h : rngP P N x ps as bd ρ w k) : rngP P N x ps as bd ρ w k' := by
  unfold rngP at *
  split at h
  · exact ⟨h.1, fun fn => Calls.mono (R := fun e w' => ∃ v, e = .returned v ∧ _) (h.2 fn) fun _ _ ⟨v, he, h1, h2⟩ => ⟨v, he, h1, hk _ h2⟩⟩
  · exact h.elim
theorem vcS_mono : ∀ {s : S} {Q Q' : Post} {ρ : Env} {w : World}, (∀ e ρ w, Q e ρ w → Q' e ρ w) → vcS P s Q ρ w → vcS P s Q' ρ w := by
  intro s
  induction s with
  | skip => intro Q Q' ρ w hq h; exact hq _ _ _ h
  | ops l => intro Q Q' ρ w hq h; exact vcL_mono hq h
  | draw d => intro Q Q' ρ w hq h; exact vcD_mono hq h
  | seq a b iha ihb => intro Q Q' ρ w hq h; exact iha (thenQ_mono (fun ρ w h => ihb hq h) hq) h
  | cond c a b iha ihb => intro Q Q' ρ w hq h; exact condP_mono (iha hq) (ihb hq) h
  | blk id a ih => intro Q Q' ρ w hq h; exact ih (blkQ_mono hq) h
  | loop a ih =>
    intro Q Q' ρ w hq h
    obtain ⟨I, h0, hr⟩ := h
    exact ⟨I, h0, fun n ρ w hi => ih (thenQ_mono (fun _ _ h => h) hq) (hr n ρ w hi)⟩
  | exit id => intro Q Q' ρ w hq h; exact hq _ _ _ h
  | ret => intro Q Q' ρ w hq h; exact hq _ _ _ h
  | bad => intro Q Q' ρ w hq h; exact h
  | rng N x ps as bd a b => intro Q Q' ρ w hq h; exact rngP_mono (fun w h => hq _ _ _ h) h
theorem lift_then {K : Env → World → Prop} {Q : Post} {X : Act → World → Prop} {Y : Exit → Act → World → Prop} (hk : ∀ ρ w, K ρ w → X (act N ρ) w) (hq : ∀ e ρ w, Q e ρ w → Y e (act N ρ) w)
    (e : Exit) (a : Act) (w : World) (h : lift N (thenQ K Q) e a w) : Exit.then X Y e a w := by
  obtain ⟨ρ, rfl, h⟩ := h
  cases e with
  | normal => exact hk _ _ h
  | _ => exact hq _ _ _ h
def ngQ (Q : Post) : Post := fun e ρ w => match e with | .goto _ => False | e => Q e ρ w
theorem vcL_ng : ∀ {l : List St} {Q : Post} {ρ : Env} {w : World}, vcL P l Q ρ w → vcL P l (ngQ Q) ρ w
  | [], _, _, _, h => h
  | s :: r, Q, ρ, w, h => by
    simp only [vcL] at h ⊢
    split at h
    · exact vcI_mono (fun v w h => vcL_ng h) h
    · exact grdP_mono (fun h => vcI_mono (fun v w h => vcL_ng h) h) vcL_ng h
theorem vcD_ng : ∀ {d : D} {Q : Post} {ρ : Env} {w : World}, vcD P d Q ρ w → vcD P d (ngQ Q) ρ w
  | .ops l, _, _, _, h => vcL_ng h
  | .alt l a b, Q, ρ, w, h => vcL_mono (Q := fun _ ρ w => vcD P a Q ρ w ∧ vcD P b Q ρ w) (Q' := fun _ ρ w => vcD P a (ngQ Q) ρ w ∧ vcD P b (ngQ Q) ρ w) (fun _ _ _ h => ⟨vcD_ng h.1, vcD_ng h.2⟩) h
theorem vcS_ng : ∀ {s : S} {Q : Post} {ρ : Env} {w : World}, vcS P s Q ρ w → vcS P s (ngQ Q) ρ w := by
  intro s
  induction s with
  | skip => intro Q ρ w h; exact h
  | ops l => intro Q ρ w h; exact vcL_ng h
  | draw d => intro Q ρ w h; exact vcD_ng h
  | seq a b iha ihb =>
    intro Q ρ w h
    show vcS P a _ ρ w
    refine vcS_mono ?_ (iha (Q := thenQ (vcS P b (ngQ Q)) Q) (vcS_mono ?_ h))
    · intro e ρ w h; cases e <;> exact h
    · intro e ρ w h; cases e <;> first | exact ihb h | exact h
  | cond c a b iha ihb => intro Q ρ w h; exact condP_mono iha ihb h
  | blk id a ih =>
    intro Q ρ w h
    show vcS P a _ ρ w
    refine vcS_mono ?_ (ih h)
    intro e ρ w h
    cases e with
    | exit i =>
      simp only [ngQ, blkQ] at h ⊢
      split at h
      · rename_i hc; rw [if_pos hc]; exact h
      · rename_i hc; rw [if_neg hc]; exact h
    | _ => exact h
  | loop a ih =>
    intro Q ρ w h
    obtain ⟨I, h0, hr⟩ := h
    refine ⟨I, h0, fun n ρ w hi => vcS_mono ?_ (ih (hr n ρ w hi))⟩
    intro e ρ w h; cases e <;> exact h
  | exit id => intro Q ρ w h; exact h
  | ret => intro Q ρ w h; exact h
  | bad => intro Q ρ w h; exact h
  | rng N x ps as bd a b => intro Q ρ w h; exact h
theorem consM_dfrs (m v : Value) : dfrs (consM m v) = dfr1 m :: dfrs v := by
  cases v <;> simp [consM, dfrs]
theorem act_up (v : Value) : act N (up ρ N v) = { act N ρ with defers := dfrs v } := by
  simp only [act]
  congr 1
  · apply Array.ext_getElem?
    intro i
    simp only [Array.getElem?_map, Array.getElem?_range]
    by_cases h : i < N
    · have : ¬ i = N := by omega
      simp [h, up, this]
    · simp [h]
  · simp [up]
theorem vcLd_ok {ro : Option Nat} {ops : Array Oper} {Q : Post} : ∀ {l : List Oper} {ρ : Env} {w : World}, dOk N l = true → (ro = none ∨ (l.map (trOd P N ops)).all (fun s => !isDfr s) = true) → vcL P (l.map (trOd P N ops)) Q ρ w → wpListIn (fz ro) 0 P ops (lift N Q) l (act N ρ) w
  | [], ρ, w, _, _, h => ⟨ρ, rfl, h⟩
  | o :: r, ρ, w, hd, hn, h => by
    simp only [dOk, List.all_cons, Bool.and_eq_true, bne_iff_ne] at hd
    have hn2 : ro = none ∨ (r.map (trOd P N ops)).all (fun s => !isDfr s) = true := hn.imp id fun h => by
      simp only [List.map_cons, List.all_cons, Bool.and_eq_true] at h
      exact h.2
    have ih := fun {ρ w} h => @vcLd_ok ro ops Q r ρ w hd.2 hn2 h
    have hd := hd.1
    simp only [List.map_cons, vcL] at h
    unfold wpListIn
    cases hx : dfrX N o with
    | some x =>
      have hro : ro = none := by
        rcases hn with h | h
        · exact h
        · simp only [List.map_cons, List.all_cons, trOd, hx, isDfr, Bool.not_true, Bool.false_and] at h
          cases h
      subst hro
      simp only [trOd, hx] at h
      unfold dfrX at hx
      split at hx
      · rename_i c hop hg hdst
        split at hx
        · rename_i f hcal
          split at hx
          · rename_i hargs
            rw [if_pos (by simp [Region.wanted, hg])]
            replace h : genP P .dfr [x.ev ρ, ρ N] w fun v w' => vcL P (r.map (trOd P N ops)) Q (up ρ N v) w' := h
            obtain ⟨v, w', hv, hk⟩ := h
            obtain ⟨g, a, b, hxe⟩ : ∃ g a b, x.ev ρ = .func (.func g) a b := by
              cases hxe : x.ev ρ with
              | func fn a b =>
                cases fn with
                | func g => exact ⟨g, a, b, rfl⟩
                | _ => rw [hxe] at hv; simp [lkSem, stuck] at hv
              | _ => rw [hxe] at hv; simp [lkSem, stuck] at hv
            rw [hxe] at hv
            simp only [lkSem, Sem.run_pure, Result.ok.injEq] at hv
            obtain ⟨rfl, rfl⟩ := hv
            refine ⟨fun _ _ => trivial, ?_⟩
            have hres : (execOp (act N ρ).eval o).run P w = .ok (.defer { target := .fn (.func g) b, args := a }) w := by
              simp only [execOp, hop, resolve, hcal, hargs, trA_ev hx, hxe, Deferred.ofValue, Sem.run_bind, Sem.run_pure, Result.andThen_ok]
              simp
            show o.uponIn (fz none) 0 P (act N ρ) _ _ ((execOp (act N ρ).eval o).run P w)
            rw [hres, Oper.uponIn_defer, hdst]
            have e : ({ act N ρ with defers := { target := .fn (.func g) b, args := a } :: (act N ρ).defers } : Act).put none undef = act N (up ρ N (consM (.func (.func g) a b) (ρ N))) := by
              rw [act_up, consM_dfrs]
              rfl
            rw [e]
            exact ih hk
          · cases hx
        · cases hx
      · cases hx
    | none =>
      simp only [trOd, hx] at h
      have run : vcI P (trI P N o) ρ w (fun v w' => vcL P (r.map (trOd P N ops)) Q (upd ρ o.dst v) w') → Oper.wpIn (fz ro) 0 P o (act N ρ) w (wpListIn (fz ro) 0 P ops (lift N Q) r) (lift N Q) := by
        intro hh
        refine Goes.wp (trI_nd hh) (trI_ok (vcI_mono (fun v w' hv => ?_) hh))
        rw [act_put _ _ _ _ hd]
        exact ih hv
      cases hg : o.guard with
      | none =>
        simp only [trO, hg] at h
        rw [if_pos (by simp [Region.wanted, hg])]
        exact run h
      | some jw =>
        obtain ⟨j, want⟩ := jw
        cases hb : (ops[j]?).bind (·.dst) with
        | none => simp only [trO, hg, hb] at h; exact h.elim
        | some s =>
          by_cases hs : s < N
          · simp only [trO, hg, hb, hs, if_true] at h
            have hy := act_yield (ρ := ρ) hb hs
            have hwant : Region.wanted o (yielded ops (act N ρ).tmps) = (boolOf (ρ s) == some want) := by
              simp only [Region.wanted, hg, hy]
            rw [hwant]
            have hskip : vcL P (r.map (trOd P N ops)) Q (upd ρ o.dst undef) w → wpListIn (fz ro) 0 P ops (lift N Q) r ((act N ρ).put o.dst undef) w := by
              intro hh
              rw [act_put _ _ _ _ hd]
              exact ih hh
            unfold grdP at h
            split at h
            · rename_i b hv
              split at h
              · rename_i hbw; subst hbw
                rw [if_pos (by simp [hv, boolOf])]
                exact run h
              · rename_i hbw
                rw [if_neg (by simp [hv, boolOf, hbw])]
                exact ⟨fun _ _ => trivial, hskip h⟩
            · rename_i hv
              rw [if_neg (by
                have : boolOf (ρ s) = none := by
                  unfold boolOf
                  split
                  · rename_i b hb'; exact (hv b hb').elim
                  · rfl
                simp [this])]
              exact ⟨fun _ _ => trivial, hskip h⟩
          · simp only [trO, hg, hb, hs, if_false] at h; exact h.elim
theorem wpIn_scope_straight {F : Fence} {n : Nat} {c : Code} {Q : Exit → Act → World → Prop} {a : Act} (h : c.wpIn F n P (Exit.noGoto Q) a w) : (Code.scope c).wpIn F n P Q a w := by
  intro b k cs hro hb hr
  have h0 : (lone (b.atR a (.code (.scope c) :: k)) cs w).fenced P F := fenced_calm hb hr rfl
  have s1 : step P (lone (b.atR a (.code (.scope c) :: k)) cs w) = .next (lone (b.atR a (.code c :: .inScope c :: k)) cs w) := step_lone_go (by simp [stepG, stepG.exec, Frame.atR])
  obtain ⟨e, a₁, w₁, hq, harr⟩ := h b (.inScope c :: k) cs hro hb hr
  cases e with
  | normal => exact ⟨.normal, a₁, w₁, hq, .head h0 s1 (StepsIn.trans harr (.one (fenced_calm hb hr rfl) (step_lone_go (by simp [stepG, stepG.exec, Frame.atR]))))⟩
  | exit id =>
    have hx : exitTo id (.inScope c :: k) = exitTo id k := by simp [exitTo]
    exact ⟨.exit id, a₁, w₁, hq, fun k' hk => .head h0 s1 (harr.1 k' (by rw [hx]; exact hk)), fun hr' hk => let ⟨k₁, h1, h2⟩ := harr.2 hr' (by rw [hx]; exact hk); ⟨k₁, h1, .head h0 s1 h2⟩⟩
  | goto l => exact hq.elim
  | ret => exact ⟨_, a₁, w₁, hq, .of_steps (.one h0 s1) harr⟩
  | panic ch => exact ⟨_, a₁, w₁, hq, .of_steps (.one h0 s1) harr⟩
  | outgrown => exact ⟨_, a₁, w₁, hq, .of_steps (.one h0 s1) harr⟩
theorem rng_ok {g : Operand} {x : Arg} {ps : Array Nat} {as bd : Code} {Q : Post} (hx : trA N g = some x) (h : rngP P N (x.ev ρ) ps as bd ρ w fun w' => Q .normal (up ρ N (consM (.int .i64 (size w)) (ρ N))) w') : (Code.rangeFunc g ps as bd).wpIn (fz none) 0 P (lift N Q) (act N ρ) w := by
  unfold rngP at h
  split at h
  · rename_i f first cap hf
    obtain ⟨hok, h⟩ := h
    refine wpIn_rangeFunc fun fn _ => ?_
    have hcall : CallsIn (fz none) (0 - 1) P f (first.toList ++ [Value.func (.yield (size w + 1)) #[] #[]] ++ cap.toList).toArray ((w.alloc (.deferred (some []))).alloc (.loop (recL N ρ ps as bd (size w) fn .ready)))
        (rangePost (fz none) 0 P (size w + 1) (lift N Q) { act N ρ with defers := [{ target := .collected (size w), args := #[] }] ++ (act N ρ).defers }) := by
      refine fz_calls (Calls.mono (h fn) ?_)
      rintro e w' ⟨v, rfl, h1, h2⟩
      refine ⟨none, _, run_endLoop h1 (by simp [recL]), _, ?_, h2⟩
      rw [act_up, consM_dfrs]
      rfl
    have hinv : (invoke (.fn (.func f) cap) (first ++ #[Value.func (.yield (size w + 1)) #[] #[]])).run P ((w.alloc (.deferred (some []))).alloc (.loop (recL N ρ ps as bd (size w) fn .ready))) =
        .ok (.enter f (first.toList ++ [Value.func (.yield (size w + 1)) #[] #[]] ++ cap.toList).toArray) ((w.alloc (.deferred (some []))).alloc (.loop (recL N ρ ps as bd (size w) fn .ready))) := by
      simp only [invoke]
      have e2 : first ++ #[Value.func (.yield (size w + 1)) #[] #[]] ++ cap = (first.toList ++ [Value.func (.yield (size w + 1)) #[] #[]] ++ cap.toList).toArray := by
        rw [← Array.toList_inj]; simp
      rw [e2]
      exact okFn_run hok
    have hres : (resolve (act N ρ).eval (rangeCall g (size w + 1)) 0).run P ((w.alloc (.deferred (some []))).alloc (.loop (recL N ρ ps as bd (size w) fn .ready))) =
        .ok { target := .fn (.func f) cap, args := first ++ #[Value.func (.yield (size w + 1)) #[] #[]] } ((w.alloc (.deferred (some []))).alloc (.loop (recL N ρ ps as bd (size w) fn .ready))) := by
      simp only [resolve, rangeCall, trA_ev hx, hf, Deferred.ofValue, Sem.run_bind, Sem.run_pure, Result.andThen_ok]
      simp [Act.eval]
    exact ⟨size w + 1, _, _, _, _, f, _, _, run_enterLoop_outer _ _ _ _ _, hres, fun _ _ => trivial, hinv, fz_depth, hcall⟩
  · exact h.elim
theorem vcS_ok : ∀ {c : Code} {ro : Option Nat} {Q : Post} {ρ : Env} {w : World}, (ro = none ∨ noR (trS P N hs c) = true) → vcS P (trS P N hs c) Q ρ w → Code.wpIn (fz ro) 0 P c (lift N Q) (act N ρ) w := by
  intro c
  induction c with
  | skip => intro ro Q ρ w _ h; exact wpIn_skip ⟨ρ, rfl, h⟩
  | region id ops draw =>
    intro ro Q ρ w hro h
    cases draw with
    | false =>
      simp only [trS] at h
      split at h
      · rename_i hd
        refine wpIn_region_list (vcLd_ok hd (hro.imp (fun h => h) fun h => ?_) h)
        simp only [trS, hd, if_true, noR] at h
        exact h
      · exact h.elim
    | true =>
      simp only [trS] at h
      split at h
      · rename_i d hd
        exact draw_ok hd h
      · exact h.elim
  | seq a b iha ihb =>
    intro ro Q ρ w hro h
    have h1 : ro = none ∨ noR (trS P N hs a) = true := hro.imp id fun h => by simp only [trS, noR, Bool.and_eq_true] at h; exact h.1
    have h2 : ro = none ∨ noR (trS P N hs b) = true := hro.imp id fun h => by simp only [trS, noR, Bool.and_eq_true] at h; exact h.2
    refine wpIn_seq (wpIn_mono (iha h1 h) ?_)
    exact lift_then (fun ρ w h => ihb h2 h) (fun e ρ w h => ⟨ρ, rfl, h⟩)
  | cond c a b iha ihb =>
    intro ro Q ρ w hro h
    simp only [trS] at h
    split at h
    · rename_i x hx
      have h1 : ro = none ∨ noR (trS P N hs a) = true := hro.imp id fun h => by simp only [trS, hx, noR, Bool.and_eq_true] at h; exact h.1
      have h2 : ro = none ∨ noR (trS P N hs b) = true := hro.imp id fun h => by simp only [trS, hx, noR, Bool.and_eq_true] at h; exact h.2
      replace h : condP (x.ev ρ) (vcS P (trS P N hs a) Q ρ w) (vcS P (trS P N hs b) Q ρ w) := h
      unfold condP at h
      split at h
      · rename_i hv; exact wpIn_cond_true (by rw [trA_ev hx, hv]) (iha h1 h)
      · rename_i hv; exact wpIn_cond_false (by rw [trA_ev hx, hv]) (ihb h2 h)
      · exact h.elim
    · exact h.elim
  | block id a ih =>
    intro ro Q ρ w hro h
    refine wpIn_block (wpIn_mono (ih (hro.imp (fun h => h) fun h => by simpa only [trS, noR] using h) h) ?_)
    rintro e _ w' ⟨ρ', rfl, hq⟩
    cases e with
    | exit i =>
      simp only [blkQ, Exit.inBlock] at hq ⊢
      split at hq
      · rename_i hc; rw [if_pos hc]; exact ⟨ρ', rfl, hq⟩
      · rename_i hc; rw [if_neg hc]; exact ⟨ρ', rfl, hq⟩
    | _ => exact ⟨ρ', rfl, hq⟩
  | loop a ih =>
    intro ro Q ρ w hro h
    obtain ⟨I, ⟨n0, h0⟩, hr⟩ := h
    refine wpIn_loop_ghost (fun n a w => ∃ ρ, a = act N ρ ∧ I n ρ w) n0 ⟨ρ, rfl, h0⟩ ?_
    rintro n _ w ⟨ρ, rfl, hi⟩
    refine wpIn_mono (ih (hro.imp (fun h => h) fun h => by simpa only [trS, noR] using h) (hr n ρ w hi)) ?_
    exact lift_then (fun ρ' w' ⟨n', hn, h⟩ => ⟨n', hn, ρ', rfl, h⟩) (fun e ρ' w' h => ⟨ρ', rfl, h⟩)
  | exit id => intro ro Q ρ w _ h; exact wpIn_exit ⟨ρ, rfl, h⟩
  | ret => intro ro Q ρ w _ h; exact wpIn_ret ⟨ρ, rfl, h⟩
  | rangeFunc g ps as bd iha ihb =>
    intro ro Q ρ w hro h
    simp only [trS] at h
    split at h
    · rename_i x hx
      split at h
      · rename_i hc
        rcases hro with rfl | hro
        · exact rng_ok hx h
        · simp only [trS, hx, hc, if_true, noR] at hro
          cases hro
      · exact h.elim
    · exact h.elim
  | scope a ih =>
    intro ro Q ρ w hro h
    refine wpIn_scope_straight (wpIn_mono (ih (hro.imp (fun h => h) fun h => by simpa only [trS, noR] using h) (vcS_ng h)) ?_)
    rintro e _ w' ⟨ρ', rfl, hq⟩
    cases e with
    | goto l => exact hq.elim
    | _ => exact ⟨ρ', rfl, hq⟩
  | label => intro ro Q ρ w _ h; exact wpIn_label ⟨ρ, rfl, h⟩
  | goto => intro ro Q ρ w _ h; exact h.elim
  | refuse => intro ro Q ρ w _ h; exact h.elim
def setPs (ρ : Env) : List Nat → List Value → Env
  | p :: ps, v :: vs => setPs (up ρ p v) ps vs
  | _, _ => ρ
theorem set_tmps (p : Nat) (v : Value) : (act N ρ).tmps.setIfInBounds p v = (act N (up ρ p v)).tmps := by
  simp only [act]
  apply Array.ext_getElem?
  intro i
  rw [Array.getElem?_setIfInBounds]
  simp only [Array.getElem?_map, Array.getElem?_range, Array.size_map, Array.size_range]
  by_cases h : p = i
  · subst h
    by_cases hd : p < N <;> simp [hd, up]
  · rw [if_neg h]
    by_cases hd : i < N <;> simp [hd, up, Ne.symm h]
theorem setPs_tmps : ∀ (ps : List Nat) (vs : List Value) (ρ : Env), (ps.zip vs).foldl (fun t (x : Nat × Value) => t.setIfInBounds x.1 x.2) (act N ρ).tmps = (act N (setPs ρ ps vs)).tmps
  | [], _, ρ => by simp [setPs]
  | p :: ps, [], ρ => by simp [setPs]
  | p :: ps, v :: vs, ρ => by
    simp only [List.zip_cons_cons, List.foldl_cons, setPs]
    rw [set_tmps]
    exact setPs_tmps ps vs _
theorem yld_ok {l : Nat} {ps : Array Nat} {as bd : Code} {D fn : Nat} {args : List Value} {k : Value → World → Prop} (hr : w.heap[l]? = some (.loop (recL N ρ ps as bd D fn .ready))) (hps : args.length = ps.size)
    (hn : noR (trS P N hs as) = true ∧ noR (trS P N hs bd) = true)
    (h : vcS P (trS P N hs as) (thenQ (fun ρ1 w1 => w1.heap[l]? = some (.loop (recL N ρ ps as bd D fn .ready)) ∧
      vcS P (trS P N hs bd) (thenQ (fun _ w2 => w2.heap[l]? = some (.loop (recL N ρ ps as bd D fn .busy)) ∧ k (.bool true) (w2.putObj l (.loop (recL N ρ ps as bd D fn .ready)))) fun _ _ _ => False) ρ1 (w1.putObj l (.loop (recL N ρ ps as bd D fn .busy)))) fun _ _ _ => False) (up (setPs ρ ps.toList args) N undef) w) : yldP P l args w k := by
  have hy := run_yield (P := P) (args := args.toArray) hr (by simpa [recL] using hps)
  refine ⟨_, _, _, _, hy, ?_⟩
  have e1 : ((recL N ρ ps as bd D fn .ready).params.zip args.toArray).foldl (fun tmps (x : Tmp × Value) => tmps.setIfInBounds x.1 x.2) (recL N ρ ps as bd D fn .ready).tmps = (act N (setPs ρ ps.toList args)).tmps := by
    rw [← setPs_tmps, ← Array.foldl_toList]
    simp [recL]
  have e2 : ({ tmps := (act N (setPs ρ ps.toList args)).tmps, defers := [] } : Act) = act N (up (setPs ρ ps.toList args) N undef) := by
    rw [act_up]; rfl
  refine RoundIn.mono (R := fun e w' => ∃ v, e = .returned v ∧ k v w') ?_ (fun e w' h => h)
  refine roundIn_of_wpIn (F := Fence.wide) trivial ?_
  rw [e1, e2]
  refine wpIn_mono (vcS_ok (ro := some l) (.inr hn.1) h) ?_
  rintro e _ w1 ⟨ρ1, rfl, hq⟩
  cases e with
  | normal =>
    obtain ⟨h1, h2⟩ := hq
    refine ⟨_, run_beginRound h1 (by simp [recL]), ?_⟩
    refine wpIn_mono (vcS_ok (ro := some l) (.inr hn.2) h2) ?_
    rintro e _ w2 ⟨ρ2, rfl, hq⟩
    cases e with
    | normal =>
      obtain ⟨h3, h4⟩ := hq
      exact ⟨_, _, run_endRound none h3, _, rfl, h4⟩
    | _ => exact hq.elim
  | _ => exact hq.elim
def wrL : List St → List Nat
  | [] => []
  | s :: r => (match s.dst with | some d => [d] | none => []) ++ wrL r
def wrD : D → List Nat
  | .ops l => wrL l
  | .alt l a b => wrL l ++ (wrD a ++ wrD b)
def wrS : S → List Nat
  | .ops l => wrL l
  | .draw d => wrD d
  | .seq a b => wrS a ++ wrS b
  | .cond _ a b => wrS a ++ wrS b
  | .blk _ a => wrS a
  | .loop a => wrS a
  | .rng N .. => [N]
  | _ => []
def Off (W : List Nat) (ρ ρ' : Env) : Prop := ∀ i, i ∉ W → ρ' i = ρ i
theorem Off.refl (W : List Nat) (ρ : Env) : Off W ρ ρ := fun _ _ => rfl
theorem Off.trans {W : List Nat} {a b c : Env} (h : Off W a b) (k : Off W b c) : Off W a c := fun i hi => (k i hi).trans (h i hi)
theorem Off.mono {W W' : List Nat} {a b : Env} (h : Off W a b) (hs : ∀ i, i ∈ W → i ∈ W') : Off W' a b := fun i hi => h i (fun hw => hi (hs i hw))
theorem Off.upd (ρ : Env) (d : Option Nat) (v : Value) : Off (match d with | some d => [d] | none => []) ρ (upd ρ d v) := by
  intro i hi
  cases d with
  | none => rfl
  | some d =>
    simp only [List.mem_singleton] at hi
    simp [E.upd, up, hi]
theorem vcL_off : ∀ {l : List St} {Q : Post} {ρ : Env} {w : World}, vcL P l Q ρ w → vcL P l (fun e ρ' w' => Q e ρ' w' ∧ Off (wrL l) ρ ρ') ρ w
  | [], Q, ρ, w, h => ⟨h, Off.refl _ _⟩
  | s :: r, Q, ρ, w, h => by
    have step : ∀ (v : Value) (w' : World), vcL P r Q (E.upd ρ s.dst v) w' → vcL P r (fun e ρ' w' => Q e ρ' w' ∧ Off (wrL (s :: r)) ρ ρ') (E.upd ρ s.dst v) w' := by
      intro v w' hh
      refine vcL_mono (fun e ρ' w'' h => ⟨h.1, ?_⟩) (vcL_off hh)
      refine Off.trans ((Off.upd ρ s.dst v).mono ?_) (h.2.mono ?_)
      · intro i hi; simp only [wrL, List.mem_append]; exact .inl hi
      · intro i hi; simp only [wrL, List.mem_append]; exact .inr hi
    simp only [vcL] at h ⊢
    split at h
    · exact vcI_mono step h
    · exact grdP_mono (fun h => vcI_mono step h) (step _ _) h
theorem vcD_off : ∀ {d : D} {Q : Post} {ρ : Env} {w : World}, vcD P d Q ρ w → vcD P d (fun e ρ' w' => Q e ρ' w' ∧ Off (wrD d) ρ ρ') ρ w
  | .ops l, Q, ρ, w, h => vcL_off h
  | .alt l a b, Q, ρ, w, h => by
    refine vcL_mono (Q := fun e ρ' w' => (vcD P a Q ρ' w' ∧ vcD P b Q ρ' w') ∧ Off (wrL l) ρ ρ') ?_ (vcL_off (Q := fun _ ρ w => vcD P a Q ρ w ∧ vcD P b Q ρ w) h)
    intro e ρ' w' ⟨⟨ha, hb⟩, ho⟩
    refine ⟨vcD_mono (fun e ρ'' w'' h => ⟨h.1, ?_⟩) (vcD_off ha), vcD_mono (fun e ρ'' w'' h => ⟨h.1, ?_⟩) (vcD_off hb)⟩
    · exact Off.trans (ho.mono (by intro i hi; simp [wrD, hi])) (h.2.mono (by intro i hi; simp [wrD, hi]))
    · exact Off.trans (ho.mono (by intro i hi; simp [wrD, hi])) (h.2.mono (by intro i hi; simp [wrD, hi]))
theorem vcS_off : ∀ {s : S} {Q : Post} {ρ : Env} {w : World}, vcS P s Q ρ w → vcS P s (fun e ρ' w' => Q e ρ' w' ∧ Off (wrS s) ρ ρ') ρ w := by
  intro s
  induction s with
  | skip => intro Q ρ w h; exact ⟨h, Off.refl _ _⟩
  | ops l => intro Q ρ w h; exact vcL_off h
  | draw d => intro Q ρ w h; exact vcD_off h
  | seq a b iha ihb =>
    intro Q ρ w h
    show vcS P a _ ρ w
    refine vcS_mono ?_ (iha h)
    intro e ρ' w' ⟨h, ho⟩
    cases e with
    | normal =>
      refine vcS_mono ?_ (ihb h)
      intro e ρ'' w'' ⟨h2, ho2⟩
      exact ⟨h2, Off.trans (ho.mono (by intro i hi; simp only [wrS, List.mem_append]; exact .inl hi)) (ho2.mono (by intro i hi; simp only [wrS, List.mem_append]; exact .inr hi))⟩
    | _ => exact ⟨h, ho.mono (by intro i hi; simp only [wrS, List.mem_append]; exact .inl hi)⟩
  | cond c a b iha ihb =>
    intro Q ρ w h
    refine condP_mono (fun h => ?_) (fun h => ?_) h
    · exact vcS_mono (fun e ρ' w' h => ⟨h.1, h.2.mono (by intro i hi; simp only [wrS, List.mem_append]; exact .inl hi)⟩) (iha h)
    · exact vcS_mono (fun e ρ' w' h => ⟨h.1, h.2.mono (by intro i hi; simp only [wrS, List.mem_append]; exact .inr hi)⟩) (ihb h)
  | blk id a ih =>
    intro Q ρ w h
    show vcS P a _ ρ w
    refine vcS_mono ?_ (ih h)
    intro e ρ' w' ⟨h, ho⟩
    cases e with
    | exit i =>
      simp only [blkQ] at h ⊢
      split at h
      · rename_i hc; rw [if_pos hc]; exact ⟨h, ho⟩
      · rename_i hc; rw [if_neg hc]; exact ⟨h, ho⟩
    | _ => exact ⟨h, ho⟩
  | loop a ih =>
    intro Q ρ w h
    obtain ⟨I, ⟨n0, h0⟩, hr⟩ := h
    refine ⟨fun n ρ' w' => I n ρ' w' ∧ Off (wrS a) ρ ρ', ⟨n0, h0, Off.refl _ _⟩, ?_⟩
    intro n ρ1 w1 ⟨hi, ho⟩
    refine vcS_mono ?_ (ih (hr n ρ1 w1 hi))
    intro e ρ2 w2 ⟨h, ho2⟩
    cases e with
    | normal => obtain ⟨n', hn, h⟩ := h; exact ⟨n', hn, h, Off.trans ho ho2⟩
    | _ => exact ⟨h, Off.trans ho ho2⟩
  | exit id => intro Q ρ w h; exact ⟨h, Off.refl _ _⟩
  | ret => intro Q ρ w h; exact ⟨h, Off.refl _ _⟩
  | bad => intro Q ρ w h; exact h
  | rng M x ps as bd a b =>
    intro Q ρ w h
    refine rngP_mono (fun w' h => ⟨h, fun i hi => ?_⟩) h
    have : ¬ i = M := by simpa [wrS] using hi
    simp [up, this]
inductive RV where
  | t (s : Nat) | ld (s : Nat) | ldN (n s : Nat)
structure SF where
  n : Nat
  k : Nat
  res : List RV
  body : S
def trR (P : Program) (N : Nat) : ResultVar → Option RV
  | .tmp s => if s < N then some (.t s) else none
  | .cell s t => if s < N then (match P.underlying t with | some d => if isAggB d then (szOf P t).map (.ldN · s) else some (.ld s) | none => none) else none
def trRs (P : Program) (N : Nat) : List ResultVar → Option (List RV)
  | [] => some []
  | x :: r => (trR P N x).bind fun a => (trRs P N r).map (a :: ·)
def trF (P : Program) (hs : Hints) (f : Nat) : Option SF :=
  (P.funcs[f]?).bind fun fn => fn.body.bind fun c => (trRs P fn.ntmps fn.results.toList).bind fun rs => if fn.params.size + fn.nfree ≤ fn.ntmps then some ⟨fn.ntmps, fn.params.size + fn.nfree, rs, trS P fn.ntmps hs c⟩ else none
def tupV : List Value → Value
  | [v] => v
  | vs => .tuple vs.toArray
def resP : List RV → Env → World → (List Value → Prop) → Prop
  | [], _, _, k => k []
  | .t s :: r, ρ, w, k => resP r ρ w fun vs => k (ρ s :: vs)
  | .ld s :: r, ρ, w, k => seqO (ldV w (ρ s)) fun v => resP r ρ w fun vs => k (v :: vs)
  | .ldN n s :: r, ρ, w, k => seqO (ldNV w n (ρ s)) fun v => resP r ρ w fun vs => k (v :: vs)
def valsOf (v : Value) : List Value := match v with | .tuple vs => vs.toList | _ => []
theorem valsOf_dfrs (v : Value) : dfrs v = (valsOf v).map dfr1 := by cases v <;> rfl
def dfrP (P : Program) (f : FuncId) (args : List Value) (w : World) (k : World → Prop) : Prop := CallsDIn (fz none) 0 P f args.toArray .returning w fun e u' w' => u' = .returning ∧ ∃ v, e = .returned v ∧ k w'
def finP (P : Program) : List Value → World → (World → Prop) → Prop
  | [], w, k => k w
  | .int _ D :: r, w, k => w.heap[D.toNat]? = some (.deferred (some [])) ∧ finP P r (w.putObj D.toNat (.deferred none)) k
  | .func (.func f) first cap :: r, w, k => okFn P f = true ∧ dfrP P f (first.toList ++ cap.toList) w fun w' => finP P r w' k
  | _, _, _ => False
def retQ (P : Program) (N : Nat) (rs : List RV) (R : Value → World → Prop) : Post := fun e ρ w => match e with | .normal | .ret => finP P (valsOf (ρ N)) w fun w => resP rs ρ w fun vs => R (tupV vs) w | _ => False
def ini : List Value → Env
  | [], _ => undef
  | v :: r, i => if i = 0 then v else ini r (i - 1)
theorem ini_get (l : List Value) (i : Nat) : ini l i = (l[i]?).getD undef := by
  induction l generalizing i with
  | nil => rfl
  | cons v r ih =>
    simp only [ini]
    cases i with
    | zero => rfl
    | succ i => simp [ih]
theorem ini_act (args : List Value) (h : args.length ≤ N) : ({ tmps := args.toArray ++ Array.replicate (N - args.toArray.size) undef, defers := [] } : Act) = act N (ini args) := by
  simp only [act]
  have hu : ini args N = undef := by rw [ini_get, List.getElem?_eq_none h]; rfl
  rw [hu]
  congr 1
  apply Array.ext_getElem?
  intro i
  rw [Array.getElem?_append]
  simp only [List.size_toArray, List.getElem?_toArray, Array.getElem?_replicate, Array.getElem?_map, Array.getElem?_range]
  by_cases hi : i < args.length
  · have : i < N := by omega
    simp [hi, this, ini_get]
  · simp only [hi, if_false]
    by_cases h2 : i < N
    · have : i - args.length < N - args.length := by omega
      simp [h2, this, ini_get, List.getElem?_eq_none (Nat.le_of_not_lt hi)]
    · have : ¬ i - args.length < N - args.length := by omega
      simp [h2, this]
theorem asAddr_ptr (a : Addr) : asAddr (.pointer (some a)) = pure a := rfl
theorem resP_ok {rs : List ResultVar} : ∀ {l : List RV} {k : List Value → Prop}, trRs P N rs = some l → resP l ρ w k → ∃ vs, (rs.mapM (m := Sem) fun
    | .tmp t => pure ((act N ρ).tmps.getD t undef)
    | .cell a t => do loadVar t (← asAddr ((act N ρ).tmps.getD a undef))).run P w = .ok vs w ∧ k vs := by
  induction rs with
  | nil => intro l k h hk; injection h with h; subst h; exact ⟨[], by simp, hk⟩
  | cons x r ih =>
    intro l k h hk
    simp only [trRs, Option.bind_eq_some_iff, Option.map_eq_some_iff] at h
    obtain ⟨a, ha, l', hl', rfl⟩ := h
    cases x with
    | tmp s =>
      simp only [trR] at ha
      split at ha
      · rename_i hs
        injection ha with ha; subst ha
        obtain ⟨vs, h1, h2⟩ := ih hl' hk
        refine ⟨_, ?_, h2⟩
        simp only [List.mapM_cons, Sem.run_bind, Sem.run_pure, Result.andThen_ok]
        rw [h1, act_get N ρ s hs]
        simp
      · cases ha
    | cell s t =>
      simp only [trR] at ha
      split at ha
      · rename_i hs
        split at ha
        · rename_i d hd
          split at ha
          · rename_i hag
            simp only [Option.map_eq_some_iff] at ha
            obtain ⟨n, hn, rfl⟩ := ha
            obtain ⟨v, hv, hk⟩ := seqO_ex hk
            obtain ⟨vs, h1, h2⟩ := ih hl' hk
            refine ⟨_, ?_, h2⟩
            have hv' : ldNV w n ((act N ρ).tmps.getD s undef) = some v := by rw [act_get N ρ s hs]; exact hv
            unfold ldNV at hv'
            split at hv'
            · rename_i ad had
              rw [Option.map_eq_some_iff] at hv'
              obtain ⟨c, hc, rfl⟩ := hv'
              have hl := lds_run (P := P) ad n 0 c #[] hc
              have hlv : (loadVar t ad).run P w = .ok (.agg c.toArray) w := by
                simp only [loadVar, Sem.run_bind, isAgg_run hd, hag, if_true, szOf_run hn, Result.andThen_ok, loadCells, hl]
                simp
              simp only [List.mapM_cons, Sem.run_bind, had, asAddr_ptr, Sem.run_pure, Result.andThen_ok, hlv]
              rw [h1]
              simp
            · cases hv'
          · rename_i hag
            injection ha with ha; subst ha
            obtain ⟨v, hv, hk⟩ := seqO_ex hk
            obtain ⟨vs, h1, h2⟩ := ih hl' hk
            refine ⟨_, ?_, h2⟩
            have hv' : ldV w ((act N ρ).tmps.getD s undef) = some v := by rw [act_get N ρ s hs]; exact hv
            unfold ldV at hv'
            split at hv'
            · rename_i ad had
              have hlv : (loadVar t ad).run P w = .ok v w := by
                simp only [loadVar, Sem.run_bind, isAgg_run hd, hag, Bool.false_eq_true, if_false, Result.andThen_ok]
                simp [load, Sem.run, hv']
              simp only [List.mapM_cons, Sem.run_bind, had, asAddr_ptr, Sem.run_pure, Result.andThen_ok, hlv]
              rw [h1]
              simp
            · cases hv'
        · cases ha
      · cases ha
theorem fin_ok {fn : Func} {tmps : Array Value} {R : Ending → World → Prop} : ∀ {l : List Value} {w : World}, finP P l w (fun w => ∃ v, (results fn tmps).run P w = .ok v w ∧ R (.returned v) w) → LeavesInM (fz none) 0 P fn tmps R (l.map dfr1) .returning w
  | [], w, h => h
  | x :: r, w, h => by
    unfold finP at h
    split at h
    · rename_i heq; cases heq
    · rename_i k D r' heq
      injection heq with e1 e2
      subst e1; subst e2
      exact ⟨by simp, .inl ⟨D.toNat, _, rfl, run_takeDeferred h.1, fin_ok h.2⟩⟩
    · rename_i f first cap r' heq
      injection heq with e1 e2
      subst e1; subst e2
      obtain ⟨hok, h⟩ := h
      refine ⟨by simp, .inr ⟨fz_depth, .func f, cap, f, (first.toList ++ cap.toList).toArray, rfl, ?_, fun _ _ => trivial, ?_⟩⟩
      · show (invoke (.fn (.func f) cap) first).run P _ = _
        simp only [invoke]
        have e : first ++ cap = (first.toList ++ cap.toList).toArray := by rw [← Array.toList_inj]; simp
        rw [e]
        exact okFn_run hok
      · refine CallsDIn.mono h ?_
        rintro e u' w' ⟨rfl, v, rfl, hk⟩
        exact fin_ok hk
    · exact h.elim
theorem finP_mono : ∀ {l : List Value} {w : World} {k k' : World → Prop}, (∀ w, k w → k' w) → finP P l w k → finP P l w k'
  | [], w, k, k', hk, h => hk _ h
  | x :: r, w, k, k', hk, h => by
    unfold finP at h
    split at h
    · rename_i heq; cases heq
    · rename_i kd D r' heq
      injection heq with e1 e2
      subst e1; subst e2
      exact ⟨h.1, finP_mono hk h.2⟩
    · rename_i f first cap r' heq
      injection heq with e1 e2
      subst e1; subst e2
      refine ⟨h.1, CallsDIn.mono h.2 ?_⟩
      rintro e u' w' ⟨hu, v, he, hh⟩
      exact ⟨hu, v, he, finP_mono hk hh⟩
    · exact h.elim
theorem fn_ok {f : FuncId} {sf : SF} {args : List Value} {R : Value → World → Prop} (hf : trF P hs f = some sf) (ha : args.length = sf.k) (h : vcS P sf.body (retQ P sf.n sf.res R) (ini args) w) : callP P f args w R := by
  simp only [trF, Option.bind_eq_some_iff] at hf
  obtain ⟨fn, hfn, c, hc, rs, hrs, hf⟩ := hf
  split at hf
  · rename_i hle
    injection hf with hf; subst hf
    refine callsIn_wide (n := 0).1 (callsIn_of_wp_marks hfn hc trivial ?_)
    rw [ini_act args (by simp only at ha; omega)]
    refine wpIn_mono (vcS_ok (ro := none) (.inl rfl) h) ?_
    rintro e _ w' ⟨ρ, rfl, hq⟩
    have key : finP P (valsOf (ρ fn.ntmps)) w' (fun w' => resP rs ρ w' (fun vs => R (tupV vs) w')) → LeavesInM (fz none) 0 P fn (act fn.ntmps ρ).tmps (fun e w' => ∃ v, e = .returned v ∧ R v w') (act fn.ntmps ρ).defers .returning w' := by
      intro hq
      show LeavesInM (fz none) 0 P fn (act fn.ntmps ρ).tmps (fun e w' => ∃ v, e = .returned v ∧ R v w') (dfrs (ρ fn.ntmps)) .returning w'
      rw [valsOf_dfrs]
      refine fin_ok (finP_mono (fun w' hq => ?_) hq)
      obtain ⟨vs, h1, h2⟩ := resP_ok hrs hq
      refine ⟨tupV vs, ?_, _, rfl, h2⟩
      have h3 : (fn.results.mapM (m := Sem) fun
          | .tmp t => pure ((act fn.ntmps ρ).tmps.getD t undef)
          | .cell a t => do loadVar t (← asAddr ((act fn.ntmps ρ).tmps.getD a undef))).run P w' = .ok vs.toArray w' := by
        have : fn.results = fn.results.toList.toArray := by simp
        rw [this, List.mapM_toArray, Sem.run_map, h1]
        rfl
      simp only [results, Sem.run_bind]
      refine Eq.trans (congrArg (fun (r : Result (Array Value)) => r.andThen fun a w' => Sem.run P (pure (if h : a.size = 1 then a[0] else Value.tuple a)) w') h3) ?_
      simp only [Result.andThen_ok, Sem.run_pure]
      congr 1
      match vs with
      | [] => rfl
      | [v] => rfl
      | a :: b :: r => simp [tupV]
    cases e with
    | normal => exact key hq
    | ret => exact key hq
    | _ => exact hq.elim
  · cases hf
theorem fnD_ok {f : FuncId} {sf : SF} {args : List Value} {R : World → Prop} (hf : trF P hs f = some sf) (ha : args.length = sf.k) (hn : (wrS sf.body).contains sf.n = false) (h : vcS P sf.body (retQ P sf.n sf.res fun _ w => R w) (ini args) w) : dfrP P f args w R := by
  simp only [trF, Option.bind_eq_some_iff] at hf
  obtain ⟨fn, hfn, c, hc, rs, hrs, hf⟩ := hf
  split at hf
  · rename_i hle
    injection hf with hf; subst hf
    refine CallsDIn.mono (R := fun e u' w' => u' = .returning ∧ ∃ v, e = .returned v ∧ R w') (callsDIn_of_wp hfn hc trivial ?_) (fun _ _ _ h => h)
    rw [ini_act args (by simp only at ha; omega)]
    refine wpIn_mono (vcS_ok (ro := none) (.inl rfl) (vcS_off h)) ?_
    rintro e _ w' ⟨ρ, rfl, hq, hoff⟩
    have hN : ρ fn.ntmps = undef := by
      rw [hoff fn.ntmps (fun hm => by
        have : (wrS (trS P fn.ntmps hs c)).contains fn.ntmps = true := by simpa using hm
        rw [this] at hn
        cases hn), ini_get, List.getElem?_eq_none (by simp only at ha; omega)]
      rfl
    have key : resP rs ρ w' (fun vs => R w') → (act fn.ntmps ρ).defers = [] ∧ ∃ v, (results fn (act fn.ntmps ρ).tmps).run P w' = .ok v w' ∧ ∃ v', (Ending.returned v) = .returned v' ∧ R w' := by
      intro hq
      refine ⟨by show dfrs (ρ fn.ntmps) = []; rw [hN]; rfl, ?_⟩
      obtain ⟨vs, h1, h2⟩ := resP_ok hrs hq
      refine ⟨tupV vs, ?_, _, rfl, h2⟩
      have h3 : (fn.results.mapM (m := Sem) fun
          | .tmp t => pure ((act fn.ntmps ρ).tmps.getD t undef)
          | .cell a t => do loadVar t (← asAddr ((act fn.ntmps ρ).tmps.getD a undef))).run P w' = .ok vs.toArray w' := by
        have : fn.results = fn.results.toList.toArray := by simp
        rw [this, List.mapM_toArray, Sem.run_map, h1]
        rfl
      simp only [results, Sem.run_bind]
      refine Eq.trans (congrArg (fun (r : Result (Array Value)) => r.andThen fun a w' => Sem.run P (pure (if h : a.size = 1 then a[0] else Value.tuple a)) w') h3) ?_
      simp only [Result.andThen_ok, Sem.run_pure]
      congr 1
      match vs with
      | [] => rfl
      | [v] => rfl
      | a :: b :: r => simp [tupV]
    have fin : finP P (valsOf (ρ fn.ntmps)) w' (fun w => resP rs ρ w fun vs => R w) → resP rs ρ w' (fun vs => R w') := by
      rw [hN]; exact fun h => h
    cases e with
    | normal => exact key (fin hq)
    | ret => exact key (fin hq)
    | _ => exact hq.elim
  · cases hf
theorem callP_mono {f : FuncId} {args : List Value} {k k' : Value → World → Prop} (h : callP P f args w k) (hk : ∀ v w', k v w' → k' v w') : callP P f args w k' :=
  Calls.mono (R := fun e w' => ∃ v, e = .returned v ∧ k v w') h fun _ _ ⟨v, he, hh⟩ => ⟨v, he, hk _ _ hh⟩
end
end Go.Proofs.YtdlimikcgdgfpaaGreatDoor.E
namespace Go.Proofs.YtdlimikcgdgfpaaGreatDoor.E
open Go.RowKit
inductive Ob where
  | cells (l : List Value)
  | other (o : Obj)
  | typed (t : TypeId) (l : List Value)
def obAt (w : World) (g : Nat) : Ob → Prop
  | .cells l => blk w g = some l
  | .other o => w.heap[g]? = some o
  | .typed t l => w.heap[g]? = some (.cells l.toArray t (0, 0))
structure AS where
  m : Nat → Option Ob
  c : Nat → Nat → Option Value
  n : Nat
  wm : ∀ g, m g ≠ none → g < n
  wc : ∀ b o, c b o ≠ none → b < n ∧ m b = none
structure KeepP (S : Nat → Prop) (w w' : World) : Prop where
  os : w'.os = w.os
  tape : w'.tape = w.tape
  output : w'.output = w.output
  sz : size w ≤ size w'
  heap : ∀ k, k < size w → ¬ S k → w'.heap[k]? = w.heap[k]?
section
variable {S S' : Nat → Prop} {a w w' w'' : World}
theorem KeepP.refl (S : Nat → Prop) (w : World) : KeepP S w w := ⟨rfl, rfl, rfl, Nat.le_refl _, fun _ _ _ => rfl⟩
theorem KeepP.step (h : KeepP S a w) (k : KeepP S' w w') (ht : ∀ i, S' i → S i ∨ size a ≤ i) : KeepP S a w' :=
  ⟨k.os.trans h.os, k.tape.trans h.tape, k.output.trans h.output, Nat.le_trans h.sz k.sz, fun i hi hn => (k.heap i (Nat.lt_of_lt_of_le hi h.sz) (fun hT => by
    rcases ht i hT with h1 | h1
    · exact hn h1
    · omega)).trans (h.heap i hi hn)⟩
theorem KeepP.new_ (S : Nat → Prop) (w : World) (l : List Value) (t : TypeId) : KeepP S w (new w l t) :=
  ⟨rfl, rfl, rfl, by rw [size_new]; omega, fun k hk _ => Below.heap_alloc _ _ _ hk⟩
theorem KeepP.alloc (S : Nat → Prop) (w : World) (o : Obj) : KeepP S w (w.alloc o) :=
  ⟨rfl, rfl, rfl, by simp [size], fun k hk _ => Below.heap_alloc _ _ _ hk⟩
theorem KeepP.put_ {g : Nat} (hg : S g) (l : List Value) : KeepP S w (put w g l) :=
  ⟨rfl, rfl, rfl, by rw [size_put]; omega, fun k hk hn => heap_put_ne (fun e => by subst e; exact hn hg) l⟩
theorem KeepP.drewN (S : Nat → Prop) (w : World) (n : Nat) : KeepP S w (w.drewN n) := ⟨rfl, rfl, rfl, Nat.le_refl _, fun _ _ _ => rfl⟩
end
section
variable {σ σ' : AS} {g k j : Nat} {ob : Ob} {l : List Value}
def AS.live (σ : AS) (g : Nat) : Prop := σ.m g ≠ none
theorem AS.lt {o : Ob} (h : σ.m g = some o) : g < σ.n := σ.wm g (by simp [h])
theorem AS.ltc {b o : Nat} {v : Value} (h : σ.c b o = some v) : b < σ.n := (σ.wc b o (by simp [h])).1
def AS.up (σ : AS) (j : Nat) : AS := ⟨σ.m, σ.c, σ.n + j, fun g h => by have := σ.wm g h; omega, fun b o h => by have := σ.wc b o h; exact ⟨by omega, this.2⟩⟩
def AS.new (σ : AS) (ob : Ob) : AS := ⟨fun k => if k = σ.n then some ob else σ.m k, σ.c, σ.n + 1, fun g h => by
  split at h
  · omega
  · have := σ.wm g h; omega, fun b o h => by
  have := σ.wc b o h
  refine ⟨by omega, ?_⟩
  rw [if_neg (by omega)]
  exact this.2⟩
def AS.put (σ : AS) (g : Nat) (ob : Ob) : AS := ⟨fun k => if k = g then (σ.m g).map (fun _ => ob) else σ.m k, σ.c, σ.n, fun k h => by
  split at h
  · rename_i e; subst e
    refine σ.wm _ (fun h0 => ?_)
    rw [h0] at h
    exact h rfl
  · exact σ.wm k h, fun b o h => by
  have := σ.wc b o h
  refine ⟨this.1, ?_⟩
  split
  · rename_i e; subst e; rw [this.2]; rfl
  · exact this.2⟩
def AS.del (σ : AS) (g : Nat) : AS := ⟨fun k => if k = g then none else σ.m k, σ.c, σ.n, fun k h => by
  split at h
  · exact absurd rfl h
  · exact σ.wm k h, fun b o h => by
  have := σ.wc b o h
  refine ⟨this.1, ?_⟩
  split
  · rfl
  · exact this.2⟩
theorem del_c : (σ.del g).c = σ.c := rfl
theorem del_n : (σ.del g).n = σ.n := rfl
theorem del_eq : (σ.del g).m g = none := by simp [AS.del]
theorem del_ne (h : k ≠ g) : (σ.del g).m k = σ.m k := by simp [AS.del, h]
theorem up_m : (σ.up j).m = σ.m := rfl
theorem up_c : (σ.up j).c = σ.c := rfl
theorem up_n : (σ.up j).n = σ.n + j := rfl
theorem up_up {i : Nat} : (σ.up i).up j = σ.up (i + j) := by simp [AS.up, Nat.add_assoc]
theorem new_c : (σ.new ob).c = σ.c := rfl
theorem new_n : (σ.new ob).n = σ.n + 1 := rfl
theorem new_eq_ : (σ.new ob).m σ.n = some ob := by simp [AS.new]
theorem new_ne (h : k ≠ σ.n) : (σ.new ob).m k = σ.m k := by simp [AS.new, h]
theorem put_c : (σ.put g ob).c = σ.c := rfl
theorem put_n : (σ.put g ob).n = σ.n := rfl
theorem put_eq : (σ.put g ob).m g = (σ.m g).map (fun _ => ob) := by simp [AS.put]
theorem put_ne (h : k ≠ g) : (σ.put g ob).m k = σ.m k := by simp [AS.put, h]
structure Sat (σ : AS) (w : World) : Prop where
  sz : size w = σ.n
  m : ∀ g ob, σ.m g = some ob → obAt w g ob
  c : ∀ b o v, σ.c b o = some v → w.cell? ⟨b, o, none⟩ = some v
structure Fol (σ σ' : AS) : Prop where
  n : σ.n ≤ σ'.n
  m : ∀ g, σ'.m g ≠ none → σ.m g ≠ none ∨ σ.n ≤ g
theorem Fol.refl (σ : AS) : Fol σ σ := ⟨Nat.le_refl _, fun _ h => .inl h⟩
theorem Fol.trans {a b c : AS} (h : Fol a b) (k : Fol b c) : Fol a c :=
  ⟨Nat.le_trans h.n k.n, fun g hg => by
    rcases k.m g hg with h1 | h1
    · exact h.m g h1
    · exact .inr (Nat.le_trans h.n h1)⟩
theorem Fol.up (σ : AS) (j : Nat) : Fol σ (σ.up j) := ⟨by rw [up_n]; omega, fun _ h => .inl h⟩
theorem Fol.new (σ : AS) (ob : Ob) : Fol σ (σ.new ob) := ⟨by rw [new_n]; omega, fun g h => by
  by_cases e : g = σ.n
  · exact .inr (by omega)
  · rw [new_ne e] at h; exact .inl h⟩
theorem Fol.put (σ : AS) (g : Nat) (ob : Ob) : Fol σ (σ.put g ob) := ⟨Nat.le_refl _, fun k h => .inl (by
  by_cases e : k = g
  · subst e
    rw [put_eq] at h
    exact fun h0 => h (by rw [h0]; rfl)
  · rwa [put_ne e] at h)⟩
end
section
variable {σ : AS} {w : World}
theorem obAt_congr {w w' : World} {g : Nat} {ob : Ob} (h : w'.heap[g]? = w.heap[g]?) (ho : obAt w g ob) : obAt w' g ob := by
  cases ob with
  | cells l => simpa only [obAt, blk, h] using ho
  | other o => exact h.trans ho
  | typed t l => exact h.trans ho
theorem obAt_lt {g : Nat} {ob : Ob} (ho : obAt w g ob) : g < size w := by
  cases ob with
  | cells l => exact blk_lt ho
  | other o => exact (Array.getElem?_eq_some_iff.1 ho).1
  | typed t l => exact (Array.getElem?_eq_some_iff.1 ho).1
theorem Sat.new_ (h : Sat σ w) {o : Obj} {ob : Ob} (ho : ∀ w', w'.heap[σ.n]? = some o → obAt w' σ.n ob) : Sat (σ.new ob) (w.alloc o) := by
  have hz : w.heap.size = σ.n := h.sz
  refine ⟨by show (w.heap.push o).size = _; simp [new_n, hz], ?_, ?_⟩
  · intro g ob' hg
    by_cases e : g = σ.n
    · subst e
      rw [new_eq_] at hg
      injection hg with hg; subst hg
      refine ho _ ?_
      rw [← hz]; exact heap_alloc_new w _
    · rw [new_ne e] at hg
      exact obAt_congr (Below.heap_alloc _ _ _ (by have := σ.lt hg; omega)) (h.m g ob' hg)
  · intro b o' v hv
    rw [new_c] at hv
    rw [World.cell?_of_block (w := w) (a := ⟨b, o', none⟩) (Below.heap_alloc _ _ _ (by have := σ.ltc hv; show b < _; omega))]
    exact h.c b o' v hv
theorem Sat.new (h : Sat σ w) (l : List Value) (t : TypeId) : Sat (σ.new (.cells l)) (new w l t) :=
  h.new_ (fun _ he => blk_of he)
theorem Sat.putO (h : Sat σ w) {g : Nat} {ob0 ob1 : Ob} (hg : σ.m g = some ob0) (l : List Value) (ho : obAt (E.put w g l) g ob1) : Sat (σ.put g ob1) (E.put w g l) := by
  refine ⟨by rw [size_put]; exact h.sz, ?_, ?_⟩
  · intro k ob hk
    by_cases e : k = g
    · subst e
      rw [put_eq, hg] at hk
      injection hk with hk; subst hk
      exact ho
    · rw [put_ne e] at hk
      exact obAt_congr (heap_put_ne e l) (h.m k ob hk)
  · intro b o v hv
    rw [put_c] at hv
    have e : b ≠ g := by
      rintro rfl
      have := (σ.wc b o (by simp [hv])).2
      rw [hg] at this; cases this
    rw [cel_put_ne e]
    exact h.c b o v hv
theorem Sat.put (h : Sat σ w) {g : Nat} {l0 : List Value} (hg : σ.m g = some (.cells l0)) (l : List Value) : Sat (σ.put g (.cells l)) (put w g l) :=
  h.putO hg l (blk_put (obAt_lt (h.m g _ hg)) l)
theorem Sat.putT (h : Sat σ w) {g : Nat} {t : TypeId} {l0 : List Value} (hg : σ.m g = some (.typed t l0)) (l : List Value) : Sat (σ.put g (.typed t l)) (E.put w g l) := by
  have hh : w.heap[g]? = some (.cells l0.toArray t (0, 0)) := h.m g _ hg
  refine h.putO hg l ?_
  have hlt : g < w.heap.size := (Array.getElem?_eq_some_iff.1 hh).1
  have ht : tyOf w g = t := by simp [tyOf, hh]
  show (E.put w g l).heap[g]? = _
  simp only [E.put, Array.getElem?_setIfInBounds, if_true, ht]
  exact if_pos hlt
theorem Sat.blkT (h : Sat σ w) {g : Nat} {t : TypeId} {l : List Value} (hg : σ.m g = some (.typed t l)) : blk w g = some l := by
  have hh : w.heap[g]? = some (.cells l.toArray t (0, 0)) := h.m g _ hg
  exact blk_of hh
theorem Sat.del {w' : World} (h : Sat σ w) (g : Nat) (hs : size w' = size w) (hh : ∀ k, k ≠ g → w'.heap[k]? = w.heap[k]?) (hm : σ.m g ≠ none) : Sat (σ.del g) w' := by
  refine ⟨hs.trans h.sz, ?_, ?_⟩
  · intro k ob hk
    by_cases e : k = g
    · subst e; rw [del_eq] at hk; cases hk
    · rw [del_ne e] at hk
      exact obAt_congr (hh k e) (h.m k ob hk)
  · intro b o v hv
    rw [del_c] at hv
    have e : b ≠ g := by
      rintro rfl
      exact hm (σ.wc b o (by simp [hv])).2
    rw [World.cell?_of_block (w := w) (a := ⟨b, o, none⟩) (hh b e)]
    exact h.c b o v hv
theorem KeepP.obj_ {S : Nat → Prop} {w : World} {g : Nat} (hg : S g) (o : Obj) : KeepP S w (w.putObj g o) :=
  ⟨rfl, rfl, rfl, by simp [size], fun k hk hn => World.putObj_heap_other (fun e => by subst e; exact hn hg)⟩
theorem Sat.obj_ (h : Sat σ w) {g : Nat} {ob0 : Ob} (hg : σ.m g = some ob0) (o : Obj) : Sat (σ.put g (.other o)) (w.putObj g o) := by
  have hlt : g < w.heap.size := obAt_lt (h.m g _ hg)
  refine ⟨by simp only [size, World.putObj_size]; exact h.sz, ?_, ?_⟩
  · intro k ob hk
    by_cases e : k = g
    · subst e
      rw [put_eq, hg] at hk
      injection hk with hk; subst hk
      exact World.putObj_heap_same hlt
    · rw [put_ne e] at hk
      exact obAt_congr (World.putObj_heap_other e) (h.m k ob hk)
  · intro b o' v hv
    rw [put_c] at hv
    have e : b ≠ g := by
      rintro rfl
      have := (σ.wc b o' (by simp [hv])).2
      rw [hg] at this; cases this
    rw [World.cell?_of_block (w := w) (a := ⟨b, o', none⟩) (World.putObj_heap_other e)]
    exact h.c b o' v hv
theorem Sat.drewN (h : Sat σ w) (n : Nat) : Sat σ (w.drewN n) := ⟨h.sz, fun g ob hg => obAt_congr (w := w) rfl (h.m g ob hg), h.c⟩
def AS.ld (σ : AS) (b o : Nat) : Option Value := match σ.m b with | some (.cells l) => l[o]? | some (.other _) => none | some (.typed _ l) => l[o]? | none => σ.c b o
theorem ld_m {b o : Nat} {l : List Value} (h : σ.m b = some (.cells l)) : σ.ld b o = l[o]? := by simp [AS.ld, h]
theorem ld_c {b o : Nat} {v : Value} (h : σ.c b o = some v) : σ.ld b o = some v := by
  have := (σ.wc b o (by simp [h])).2
  simp [AS.ld, this, h]
theorem Sat.ld (h : Sat σ w) {b o : Nat} {v : Value} (hv : σ.ld b o = some v) : w.cell? ⟨b, o, none⟩ = some v := by
  unfold AS.ld at hv
  split at hv
  · rename_i l hl
    rw [cel (h.m b _ hl)]; exact hv
  · cases hv
  · rename_i t l hl
    rw [cel (h.blkT hl)]; exact hv
  · exact h.c b o v hv
def ldS (σ : AS) : Value → Option Value
  | .pointer (some a) => if a.spot = none then σ.ld a.block a.off else none
  | _ => none
def ldsS (σ : AS) (b o : Nat) : Nat → Option (List Value)
  | 0 => some []
  | n + 1 => (σ.ld b o).bind fun v => (ldsS σ b (o + 1) n).map (v :: ·)
def ldNS (σ : AS) (n : Nat) : Value → Option Value
  | .pointer (some a) => if a.spot = none then (ldsS σ a.block a.off n).map fun l => .agg l.toArray else none
  | _ => none
def stS (σ : AS) (n : Nat) : Value → Value → Option AS
  | .pointer (some a), v =>
    match σ.m a.block with
    | some (.cells l) => if a.spot = none ∧ (cellsV v).length = n ∧ a.off + n ≤ l.length ∧ (cellsV v).all okCell then some (σ.put a.block (.cells (l.take a.off ++ cellsV v ++ l.drop (a.off + n)))) else none
    | some (.typed t l) => if a.spot = none ∧ (cellsV v).length = n ∧ a.off + n ≤ l.length ∧ (cellsV v).all okCell then some (σ.put a.block (.typed t (l.take a.off ++ cellsV v ++ l.drop (a.off + n)))) else none
    | _ => none
  | _, _ => none
theorem addE (a : Addr) (h : a.spot = none) (i : Nat) : a.add i = ⟨a.block, a.off + i, none⟩ := by
  unfold Addr.add
  cases a
  subst h
  split
  · rename_i h; subst h; rfl
  · rfl
theorem Sat.lds (h : Sat σ w) {a : Addr} (ha : a.spot = none) : ∀ {n i : Nat} {l : List Value}, ldsS σ a.block (a.off + i) n = some l → ldsV w a i n = some l
  | 0, i, l, hl => hl
  | n + 1, i, l, hl => by
    simp only [ldsS, Option.bind_eq_some_iff, Option.map_eq_some_iff] at hl
    obtain ⟨v, hv, r, hr, rfl⟩ := hl
    simp only [ldsV, addE a ha, h.ld hv, Option.bind_some, h.lds ha (i := i + 1) hr, Option.map_some]
theorem Sat.ldS (h : Sat σ w) {x v : Value} (hv : ldS σ x = some v) : ldV w x = some v := by
  unfold E.ldS at hv
  split at hv
  · split at hv
    · rename_i a ha
      have := h.ld hv
      rw [← this]; cases a; cases ha; rfl
    · cases hv
  · cases hv
theorem Sat.ldN (h : Sat σ w) {x v : Value} {n : Nat} (hv : ldNS σ n x = some v) : ldNV w n x = some v := by
  unfold ldNS at hv
  split at hv
  · split at hv
    · rename_i a ha
      simp only [Option.map_eq_some_iff] at hv
      obtain ⟨l, hl, rfl⟩ := hv
      simp only [ldNV, h.lds ha (i := 0) hl, Option.map_some]
    · cases hv
  · cases hv
theorem Sat.stS (h : Sat σ w) {x v : Value} {n : Nat} {σ' : AS} (hv : stS σ n x v = some σ') : ∃ w', stV w n x v = some w' ∧ Sat σ' w' ∧ KeepP σ.live w w' ∧ Fol σ σ' := by
  unfold E.stS at hv
  split at hv
  · rename_i a
    split at hv
    · rename_i l hl
      split at hv
      · rename_i hc
        injection hv with hv; subst hv
        have hb : blk w a.block = some l := h.m _ _ hl
        refine ⟨_, ?_, h.put hl _, KeepP.put_ (by unfold AS.live; rw [hl]; simp) _, Fol.put _ _ _⟩
        simp only [stV, hb, Option.bind_some, if_pos hc]
      · cases hv
    · rename_i t l hl
      split at hv
      · rename_i hc
        injection hv with hv; subst hv
        have hb : blk w a.block = some l := h.blkT hl
        refine ⟨_, ?_, h.putT hl _, KeepP.put_ (by unfold AS.live; rw [hl]; simp) _, Fol.put _ _ _⟩
        simp only [stV, hb, Option.bind_some, if_pos hc]
      · cases hv
    · cases hv
  · cases hv
end
def Lf (X : World → (Value → World → Prop) → Prop) (σ : AS) (k : Value → AS → Prop) : Prop :=
  ∀ w, Sat σ w → X w fun v w' => KeepP σ.live w w' ∧ ∃ σ', Sat σ' w' ∧ Fol σ σ' ∧ k v σ'
end Go.Proofs.YtdlimikcgdgfpaaGreatDoor.E
namespace Go.Proofs.YtdlimikcgdgfpaaGreatDoor.E
open Go.RowKit
@[reducible] def Dm.{u} {α : Sort u} (_ : α) : Type := Unit
def kPick (c a b : Value) (k : Value → Prop) (_ : Dm k := ()) : Prop := seqO (asB c) fun t => k (if t then a else b)
def kBin (op : BinOp) (x y : Value) (k : Value → Prop) (_ : Dm k := ()) : Prop := seqO (binV op x y) k
def kSft (op : BinOp) (x y : Value) (k : Value → Prop) (_ : Dm k := ()) : Prop := seqO (sftV op x y) k
def kEq (kd : Nat) (neg : Bool) (x y : Value) (k : Value → Prop) (_ : Dm k := ()) : Prop := seqO (eqV kd x y) fun b => k (.bool (b != neg))
def kEqi (neg : Bool) (x y : Value) (k : Value → Prop) (_ : Dm k := ()) : Prop := seqO (eqI x y) fun b => k (.bool (b != neg))
def kUn (op : UnOp) (x : Value) (k : Value → Prop) (_ : Dm k := ()) : Prop := seqO (unV op x) k
def kLd (s : AS) (x : Value) (k : Value → Prop) (_ : Dm k := ()) : Prop := seqO (ldS s x) k
def kLdN (s : AS) (n : Nat) (x : Value) (k : Value → Prop) (_ : Dm k := ()) : Prop := seqO (ldNS s n x) k
def kSt (s : AS) (n : Nat) (x y : Value) (k : AS → Prop) (_ : Dm k := ()) : Prop := seqO (stS s n x y) k
def kNew (s : AS) (l : List Value) (k : Value → AS → Prop) (_ : Dm k := ()) : Prop := k (.pointer (some ⟨s.n, 0, none⟩)) (s.new (.cells l))
def selfB (P : Program) (t : TypeId) : Bool := match P.underlying t with
  | some (.struct fs) => fs.size == 2 && (match fs[0]? with | some f => (match P.underlying f.type with | some (.pointer e) => e == t | _ => false) | none => false)
  | _ => false
def hasB (P : Program) : Nat → TypeId → Bool
  | 0, _ => false
  | n + 1, t => selfB P t || (match P.underlying t with | some (.struct fs) => fs.toList.any fun f => hasB P n f.type | _ => false)
def kNewT (s : AS) (t : TypeId) (l : List Value) (k : Value → AS → Prop) (_ : Dm k := ()) : Prop := k (.pointer (some ⟨s.n, 0, none⟩)) (s.new (.typed t l))
def kBuild (z : List Value) (ps : List (Nat × Nat × Value)) (k : Value → Prop) (_ : Dm k := ()) : Prop := seqO (lay z ps) fun l => k (.agg l.toArray)
def kBsl (s : AS) (n : Nat) (z : List Value) (ps : List (Nat × Nat × Value)) (k : Value → AS → Prop) (_ : Dm k := ()) : Prop := seqO (lay z ps) fun l => k (.slice (some ⟨s.n, 0, none⟩) n n) (s.new (.cells l))
def kNck (x : Value) (k : Value → Prop) (_ : Dm k := ()) : Prop := seqO (nckV x) k
def kFld (off : Nat) (x : Value) (k : Value → Prop) (_ : Dm k := ()) : Prop := seqO (fldV off x) k
def kGet (off : Nat) (x : Value) (k : Value → Prop) (_ : Dm k := ()) : Prop := seqO (get1V off x) k
def kGetN (off n : Nat) (x : Value) (k : Value → Prop) (_ : Dm k := ()) : Prop := seqO (getNV off n x) k
def kIdx (sz : Nat) (x i : Value) (k : Value → Prop) (_ : Dm k := ()) : Prop := seqO (idxV sz x i) k
def kIdxA (len sz : Nat) (x i : Value) (k : Value → Prop) (_ : Dm k := ()) : Prop := seqO (idxAV len sz x i) k
def kIxS (x i : Value) (k : Value → Prop) (_ : Dm k := ()) : Prop := seqO (ixSV x i) k
def kSubS (x : Value) (lo hi : Option Value) (k : Value → Prop) (_ : Dm k := ()) : Prop := seqO (subSV x lo hi) k
def kSubL (sz : Nat) (x : Value) (lo hi : Option Value) (k : Value → Prop) (_ : Dm k := ()) : Prop := seqO (subLV sz x lo hi) k
def kSubA (len sz : Nat) (x : Value) (lo hi : Option Value) (k : Value → Prop) (_ : Dm k := ()) : Prop := seqO (subAV len sz x lo hi) k
def kCvi (kd : IntKind) (x : Value) (k : Value → Prop) (_ : Dm k := ()) : Prop := seqO (cviV kd x) k
def kCvSS (x : Value) (k : Value → Prop) (_ : Dm k := ()) : Prop := seqO (cssV x) k
def kExt (i : Nat) (x : Value) (k : Value → Prop) (_ : Dm k := ()) : Prop := seqO (extV i x) k
def kLen (s : Bool) (x : Value) (k : Value → Prop) (_ : Dm k := ()) : Prop := seqO (lenV s x) k
def kMin (x y : Value) (k : Value → Prop) (_ : Dm k := ()) : Prop := seqO (min2V x y) k
def kMax (x y : Value) (k : Value → Prop) (_ : Dm k := ()) : Prop := seqO (max2V x y) k
def kCvBS (s : AS) (x : Value) (k : Value → Prop) (_ : Dm k := ()) : Prop :=
  match x with
  | .slice none _ _ => k (.string (bs []))
  | .slice (some a) n _ => a.spot = none ∧ ∃ l : List UInt8, l.length = n ∧ ldsS s a.block a.off n = some (l.map fun b => .int .u8 b.toNat) ∧ k (.string (bs l))
  | _ => False
def kMks (s : AS) (sz bytes : Nat) (z : List Value) (l c : Value) (k : Value → AS → Prop) (_ : Dm k := ()) : Prop :=
  match l, c with
  | .int _ a, .int _ b => 0 ≤ a ∧ a ≤ b ∧ b ≤ 9223372036854775807 ∧ bytes * b ≤ 281474976710656 ∧ z.length = sz ∧ 0 < sz ∧ k (.slice (some ⟨s.n, 0, none⟩) a.toNat b.toNat) (s.new (.cells (List.replicate b.toNat z).flatten))
  | _, _ => False
def kMkm (s : AS) (k : Value → AS → Prop) (_ : Dm k := ()) : Prop := k (.map (some s.n)) (s.new (.other (.map #[] 0)))
def kCall (P : Program) (f : Nat) (args : List Value) (s : AS) (k : Value → AS → Prop) (_ : Dm k := ()) : Prop := Lf (callP P f args) s k
def kYld (P : Program) (l : Nat) (args : List Value) (s : AS) (k : Value → AS → Prop) (_ : Dm k := ()) : Prop := Lf (yldP P l args) s k
def kCallv (P : Program) (f : Value) (args : List Value) (s : AS) (k : Value → AS → Prop) (_ : Dm k := ()) : Prop :=
  match f with
  | .func (.func g) first cap => okFn P g = true ∧ kCall P g (first.toList ++ args ++ cap.toList) s k
  | .func (.yield l) first cap => first = #[] ∧ cap = #[] ∧ kYld P l args s k
  | _ => False
def kApp (P : Program) (t u : TypeId) (x y : Value) (s : AS) (k : Value → AS → Prop) (_ : Dm k := ()) : Prop := Lf (appP P t u x y) s k
def kCpy (P : Program) (t u : TypeId) (x y : Value) (s : AS) (k : Value → AS → Prop) (_ : Dm k := ()) : Prop := Lf (cpyP P t u x y) s k
def kGen (P : Program) (kd : LK) (vs : List Value) (s : AS) (k : Value → AS → Prop) (_ : Dm k := ()) : Prop := Lf (genP P kd vs) s k
def kChk (s : AS) (x v : Value) (k : Prop) (_ : Dm k := ()) : Prop := ldS s x = some v ∧ k
def kChkN (s : AS) (n : Nat) (x v : Value) (k : Prop) (_ : Dm k := ()) : Prop := ldNS s n x = some v ∧ k
def kRng (P : Program) (fv : Value) (B : List Value → AS → (AS → (AS → Prop) → Prop) → (AS → Prop) → Prop) (s : AS) (k : Value → AS → Prop) (_ : Dm B := ()) (_ : Dm k := ()) : Prop :=
  match fv with
  | .func (.func g) first cap => okFn P g = true ∧ ∀ (o o' : Obj),
      (∀ args σ k', σ.m (s.n + 1) = some (.other o) → B args σ (fun σ1 k1 => σ1.m (s.n + 1) = some (.other o) ∧ k1 (σ1.put (s.n + 1) (.other o'))) (fun σ2 => σ2.m (s.n + 1) = some (.other o') ∧ k' (.bool true) (σ2.put (s.n + 1) (.other o))) → kYld P (s.n + 1) args σ k') →
      kCall P g (first.toList ++ [.func (.yield (s.n + 1)) #[] #[]] ++ cap.toList) ((s.new (.other (.deferred (some [])))).new (.other o)) fun _ σ' => σ'.m (s.n + 1) = some (.other o) ∧ ∀ o2, k (.int .i64 s.n) (σ'.put (s.n + 1) (.other o2))
  | _ => False
def kDfr (P : Program) (f : Nat) (args : List Value) (s : AS) (k : AS → Prop) : Prop := Lf (fun w kk => dfrP P f args w fun w' => kk undef w') s fun _ s' => k s'
def kFin (P : Program) : List Value → AS → (AS → Prop) → Prop
  | [], s, k => k s
  | .int _ D :: r, s, k => s.m D.toNat = some (.other (.deferred (some []))) ∧ kFin P r (s.put D.toNat (.other (.deferred none))) k
  | .func (.func f) first cap :: r, s, k => okFn P f = true ∧ kDfr P f (first.toList ++ cap.toList) s fun s => kFin P r s k
  | _, _, _ => False
def kCond (v : Value) (X Y : Prop) (_ : Dm X := ()) (_ : Dm Y := ()) : Prop := match v with | .bool true => X | .bool false => Y | _ => False
def insA (P : Program) (i : Ins) (ρ : Env) (s : AS) (k : Value → AS → Prop) : Prop :=
  match i with
  | .mov x => k (x.ev ρ) s
  | .pick c a b => kPick (c.ev ρ) (a.ev ρ) (b.ev ρ) fun v => k v s
  | .bin op x y => kBin op (x.ev ρ) (y.ev ρ) fun v => k v s
  | .sft op x y => kSft op (x.ev ρ) (y.ev ρ) fun v => k v s
  | .eq kd neg x y => kEq kd neg (x.ev ρ) (y.ev ρ) fun v => k v s
  | .eqi neg x y => kEqi neg (x.ev ρ) (y.ev ρ) fun v => k v s
  | .un op x => kUn op (x.ev ρ) fun v => k v s
  | .load x => kLd s (x.ev ρ) fun v => k v s
  | .loadN n x => kLdN s n (x.ev ρ) fun v => k v s
  | .store n x y => kSt s n (x.ev ρ) (y.ev ρ) fun s' => k undef s'
  | .alloc t z => match hasB P 4 t with | true => kNewT s t z k | false => kNew s z k
  | .box t x => match hasB P 4 t with | true => kNewT s t (cellsV (x.ev ρ)) k | false => kNew s (cellsV (x.ev ρ)) k
  | .build z ps => kBuild z (layA ρ ps) fun v => k v s
  | .bsl _ n z ps => kBsl s n z (layA ρ ps) k
  | .nck x => kNck (x.ev ρ) fun v => k v s
  | .fld off x => kFld off (x.ev ρ) fun v => k v s
  | .get1 off x => kGet off (x.ev ρ) fun v => k v s
  | .getN off n x => kGetN off n (x.ev ρ) fun v => k v s
  | .idx sz x i => kIdx sz (x.ev ρ) (i.ev ρ) fun v => k v s
  | .idxA len sz x i => kIdxA len sz (x.ev ρ) (i.ev ρ) fun v => k v s
  | .ixS x i => kIxS (x.ev ρ) (i.ev ρ) fun v => k v s
  | .subS x lo hi => kSubS (x.ev ρ) (lo.map (Arg.ev ρ)) (hi.map (Arg.ev ρ)) fun v => k v s
  | .subL sz x lo hi => kSubL sz (x.ev ρ) (lo.map (Arg.ev ρ)) (hi.map (Arg.ev ρ)) fun v => k v s
  | .subA len sz x lo hi => kSubA len sz (x.ev ρ) (lo.map (Arg.ev ρ)) (hi.map (Arg.ev ρ)) fun v => k v s
  | .cvi kd x => kCvi kd (x.ev ρ) fun v => k v s
  | .cvBS x => kCvBS s (x.ev ρ) fun v => k v s
  | .cvSS x => kCvSS (x.ev ρ) fun v => k v s
  | .mkf f a b => k (.func (.func f) (argsV ρ a).toArray (argsV ρ b).toArray) s
  | .mks _ sz bytes z l c => kMks s sz bytes z (l.ev ρ) (c.ev ρ) k
  | .mkm => kMkm s k
  | .ext i x => kExt i (x.ev ρ) fun v => k v s
  | .len b x => kLen b (x.ev ρ) fun v => k v s
  | .min2 x y => kMin (x.ev ρ) (y.ev ρ) fun v => k v s
  | .max2 x y => kMax (x.ev ρ) (y.ev ρ) fun v => k v s
  | .call f as => kCall P f (argsV ρ as) s k
  | .callv x as => kCallv P (x.ev ρ) (argsV ρ as) s k
  | .app t u x y => kApp P t u (x.ev ρ) (y.ev ρ) s k
  | .cpy t u x y => kCpy P t u (x.ev ρ) (y.ev ρ) s k
  | .gen kd xs => kGen P kd (argsV ρ xs) s k
  | .chk x d => kChk s (x.ev ρ) (ρ d) (k undef s)
  | .chkN n x d => kChkN s n (x.ev ρ) (ρ d) (k undef s)
  | .bad => False
def Out (σ : AS) (w : World) (k : Value → AS → Prop) : Value → World → Prop := fun v w' => KeepP σ.live w w' ∧ ∃ σ', Sat σ' w' ∧ Fol σ σ' ∧ k v σ'
section
variable {P : Program} {ρ : Env} {σ : AS} {w : World} {k : Value → AS → Prop}
theorem Out.same (h : Sat σ w) {v : Value} (hk : k v σ) : Out σ w k v w := ⟨KeepP.refl _ _, σ, h, Fol.refl _, hk⟩
theorem Out.new (h : Sat σ w) {v : Value} {l : List Value} (t : TypeId) (hk : k v (σ.new (.cells l))) : Out σ w k v (new w l t) := ⟨KeepP.new_ _ _ _ _, _, h.new l t, Fol.new _ _, hk⟩
theorem Out.newT (h : Sat σ w) {v : Value} {l : List Value} (t : TypeId) (hk : k v (σ.new (.typed t l))) : Out σ w k v (E.new w l t) := ⟨KeepP.new_ _ _ _ _, _, h.new_ (o := .cells l.toArray t) (ob := .typed t l) (fun _ he => he), Fol.new _ _, hk⟩
theorem pure_ok {o : Option Value} {k' : Value → Prop} (h : Sat σ w) (hk : seqO o k') (hh : ∀ v, k' v → k v σ) : seqO o fun v => Out σ w k v w :=
  seqO_mono (fun v hv => Out.same h (hh v hv)) hk
theorem insA_ok {i : Ins} (h : insA P i ρ σ k) (hs : Sat σ w) : vcI P i ρ w (Out σ w k) := by
  cases i
  case mov x => exact Out.same hs h
  case mkf => exact Out.same hs h
  case pick c a b => exact seqO_mono (k := fun t : Bool => k (if t then a.ev ρ else b.ev ρ) σ) (k' := fun t => Out σ w k (if t then a.ev ρ else b.ev ρ) w) (fun v hv => Out.same hs hv) h
  case eq kd neg x y => exact seqO_mono (fun v hv => Out.same hs hv) (k := fun b => k (.bool (b != neg)) σ) h
  case eqi neg x y => exact seqO_mono (fun v hv => Out.same hs hv) (k := fun b => k (.bool (b != neg)) σ) h
  case load x =>
    obtain ⟨v, hv, hk⟩ := seqO_ex (show seqO (ldS σ (x.ev ρ)) fun v => k v σ from h)
    show seqO (ldV w (x.ev ρ)) _
    rw [hs.ldS hv]
    exact Out.same hs hk
  case loadN n x =>
    obtain ⟨v, hv, hk⟩ := seqO_ex (show seqO (ldNS σ n (x.ev ρ)) fun v => k v σ from h)
    show seqO (ldNV w n (x.ev ρ)) _
    rw [hs.ldN hv]
    exact Out.same hs hk
  case store n x y =>
    obtain ⟨σ', hv, hk⟩ := seqO_ex (show seqO (stS σ n (x.ev ρ) (y.ev ρ)) fun s' => k undef s' from h)
    obtain ⟨w', h1, h2, h3, h4⟩ := hs.stS hv
    show seqO (stV w n (x.ev ρ) (y.ev ρ)) _
    rw [h1]
    exact ⟨h3, σ', h2, h4, hk⟩
  case alloc t z =>
    show Out σ w k (.pointer (some ⟨size w, 0, none⟩)) (new w z t)
    rw [hs.sz]
    simp only [insA] at h
    split at h
    · exact Out.newT hs t h
    · exact Out.new hs t h
  case box t x =>
    show Out σ w k (.pointer (some ⟨size w, 0, none⟩)) (new w (cellsV (x.ev ρ)) t)
    rw [hs.sz]
    simp only [insA] at h
    split at h
    · exact Out.newT hs t h
    · exact Out.new hs t h
  case build z ps => exact seqO_mono (k := fun l : List Value => k (.agg l.toArray) σ) (k' := fun l => Out σ w k (.agg l.toArray) w) (fun v hv => Out.same hs hv) h
  case bsl e n z ps =>
    obtain ⟨l, hl, hk⟩ := seqO_ex (show seqO (lay z (layA ρ ps)) fun l => k (.slice (some ⟨σ.n, 0, none⟩) n n) (σ.new (.cells l)) from h)
    show seqO (lay z (layA ρ ps)) _
    rw [hl]
    show Out σ w k (.slice (some ⟨size w, 0, none⟩) n n) (new w l e)
    rw [hs.sz]
    exact Out.new hs e hk
  case cvBS x =>
    replace h : kCvBS σ (x.ev ρ) (fun v => k v σ) := h
    show cvBSP w (x.ev ρ) fun v => Out σ w k v w
    unfold kCvBS at h
    split at h
    · rename_i hx; rw [hx]; exact Out.same hs h
    · rename_i a n c hx
      obtain ⟨ha, l, h1, h2, h3⟩ := h
      rw [hx]
      exact ⟨l, h1, hs.lds ha (i := 0) h2, Out.same hs h3⟩
    · exact h.elim
  case mks e sz bytes z l c =>
    replace h : kMks σ sz bytes z (l.ev ρ) (c.ev ρ) k := h
    show mksP e sz bytes z (l.ev ρ) (c.ev ρ) w _
    unfold kMks at h
    split at h
    · rename_i hx hy
      obtain ⟨h1, h2, h3, h4, h5, h6, h7⟩ := h
      rw [hx, hy]
      unfold mksP
      rw [hs.sz]
      exact ⟨h1, h2, h3, h4, h5, h6, Out.new hs e h7⟩
    · exact h.elim
  case mkm =>
    show Out σ w k (.map (some (size w))) (w.alloc (.map #[] 0))
    rw [hs.sz]
    exact ⟨KeepP.alloc _ _ _, _, hs.new_ (ob := .other (.map #[] 0)) (fun _ he => he), Fol.new _ _, h⟩
  case call f as => exact h w hs
  case callv x as =>
    replace h : kCallv P (x.ev ρ) (argsV ρ as) σ k := h
    show callvP P (x.ev ρ) (argsV ρ as) w _
    unfold kCallv at h
    split at h
    · rename_i hx
      rw [hx]
      exact ⟨h.1, h.2 w hs⟩
    · rename_i hx
      rw [hx]
      exact ⟨h.1, h.2.1, h.2.2 w hs⟩
    · exact h.elim
  case app t u x y => exact h w hs
  case cpy t u x y => exact h w hs
  case gen kd xs => exact h w hs
  case chk x d => exact ⟨hs.ldS h.1, Out.same hs h.2⟩
  case chkN n x d => exact ⟨hs.ldN h.1, Out.same hs h.2⟩
  case bad => exact h.elim
  all_goals exact pure_ok hs h (fun _ h => h)
theorem insA_congr {ρ' : Env} {i : Ins} (h : ∀ t, t ∈ insR i → ρ t = ρ' t) : insA P i ρ σ k = insA P i ρ' σ k := by
  cases i <;> simp only [insR, List.mem_append, List.mem_cons] at h <;> simp only [insA]
  case pick a b c => rw [arg_congr (a := a) fun t ht => h t (.inl (.inl ht)), arg_congr (a := b) fun t ht => h t (.inl (.inr ht)), arg_congr (a := c) fun t ht => h t (.inr ht)]
  case build => rw [lays_congr h]
  case bsl => rw [lays_congr h]
  case mkf a b => rw [args_congr (l := a) fun t ht => h t (.inl ht), args_congr (l := b) fun t ht => h t (.inr ht)]
  case call => rw [args_congr h]
  case gen => rw [args_congr h]
  case callv x a => rw [arg_congr (a := x) fun t ht => h t (.inl ht), args_congr (l := a) fun t ht => h t (.inr ht)]
  case subS x a b => rw [arg_congr (a := x) fun t ht => h t (.inl ht), opt_congr (a := a) fun t ht => h t (.inr (.inl ht)), opt_congr (a := b) fun t ht => h t (.inr (.inr ht))]
  case subL x a b => rw [arg_congr (a := x) fun t ht => h t (.inl ht), opt_congr (a := a) fun t ht => h t (.inr (.inl ht)), opt_congr (a := b) fun t ht => h t (.inr (.inr ht))]
  case subA x a b => rw [arg_congr (a := x) fun t ht => h t (.inl ht), opt_congr (a := a) fun t ht => h t (.inr (.inl ht)), opt_congr (a := b) fun t ht => h t (.inr (.inr ht))]
  case chk x d => rw [arg_congr (a := x) fun t ht => h t (.inr ht), h d (.inl rfl)]
  case chkN n x d => rw [arg_congr (a := x) fun t ht => h t (.inr ht), h d (.inl rfl)]
  all_goals first
    | rfl
    | (rename_i x; rw [arg_congr (a := x) h]; done)
    | (rename_i x y; rw [arg_congr (a := x) fun t ht => h t (.inl ht), arg_congr (a := y) fun t ht => h t (.inr ht)]; done)
end
end Go.Proofs.YtdlimikcgdgfpaaGreatDoor.E
namespace Go.Proofs.YtdlimikcgdgfpaaGreatDoor.E
open Go.RowKit
def bits (l : List Nat) : Nat := l.foldr (fun i m => (1 <<< i) ||| m) 0
theorem one_bit (i j : Nat) : (1 <<< i).testBit j = decide (i = j) := by
  rw [Nat.one_shiftLeft, Nat.testBit_two_pow]
theorem bits_mem (l : List Nat) (i : Nat) : (bits l).testBit i = true ↔ i ∈ l := by
  induction l with
  | nil => simp [bits]
  | cons a r ih =>
    have : bits (a :: r) = (1 <<< a) ||| bits r := rfl
    rw [this, Nat.testBit_or, one_bit, Bool.or_eq_true, ih, decide_eq_true_eq, List.mem_cons]
    constructor
    · rintro (h | h)
      · exact .inl h.symm
      · exact .inr h
    · rintro (h | h)
      · exact .inl h.symm
      · exact .inr h
def slots (m : Nat) : List Nat := (List.range (m.log2 + 1)).filter fun i => m.testBit i
theorem slots_mem (m i : Nat) : i ∈ slots m ↔ m.testBit i = true := by
  simp only [slots, List.mem_filter, List.mem_range]
  constructor
  · exact fun h => h.2
  · intro h
    refine ⟨?_, h⟩
    have h1 := Nat.ge_two_pow_of_testBit h
    have h2 : m ≠ 0 := by
      rintro rfl
      simp at h
    have := (Nat.le_log2 h2).2 h1
    omega
def wrM (s : S) : Nat := bits (wrS s)
def cut1 (m : Nat) : Option Nat → Nat
  | some d => m ^^^ (m &&& (1 <<< d))
  | none => m
theorem cut1_bit {m i : Nat} {d : Option Nat} (h : m.testBit i = true) (hd : d ≠ some i) : (cut1 m d).testBit i = true := by
  cases d with
  | none => exact h
  | some d =>
    have hn : ¬ d = i := fun e => hd (by rw [e])
    unfold cut1
    rw [Nat.testBit_xor, Nat.testBit_and, one_bit]
    simp [h, hn]
inductive G where
  | one (i : St)
  | grp (g : Nat) (want : Bool) (l : List St)
def bare (i : St) : St := ⟨i.dst, none, i.ins⟩
def under (g : Nat) (want : Bool) (i : St) : St := ⟨i.dst, some (g, want), i.ins⟩
def grpL : List St → List G
  | [] => []
  | i :: r =>
    match i.grd with
    | none => .one i :: grpL r
    | some (g, w) =>
      match grpL r with
      | .grp g' w' l :: r' => if g = g' ∧ w = w' ∧ i.dst ≠ some g then .grp g w (bare i :: l) :: r' else .grp g w [bare i] :: .grp g' w' l :: r'
      | r' => .grp g w [bare i] :: r'
def unG : List G → List St
  | [] => []
  | .one i :: r => i :: unG r
  | .grp g w l :: r => l.map (under g w) ++ unG r
theorem unG_grpL : ∀ l : List St, unG (grpL l) = l
  | [] => rfl
  | i :: r => by
    have ih := unG_grpL r
    unfold grpL
    split
    · simp [unG, ih]
    · rename_i g w hg
      have hb : under g w (bare i) = i := by cases i; cases hg; rfl
      split
      · rename_i g' w' l r' hr
        rw [hr] at ih
        split
        · rename_i hc
          obtain ⟨rfl, rfl, _⟩ := hc
          simp only [unG, List.map_cons, List.cons_append, hb] at ih ⊢
          rw [ih]
        · simp only [unG, List.map_cons, List.map_nil, List.cons_append, List.nil_append, hb] at ih ⊢
          rw [ih]
      · simp only [unG, List.map_cons, List.map_nil, List.cons_append, List.nil_append, hb, ih]
def liveL : List St → Nat → Nat
  | [], out => out
  | i :: r, out => cut1 (liveL r out) i.dst ||| bits (stR i)
def liveG : List G → Nat → Nat
  | [], out => out
  | .one i :: r, out => cut1 (liveG r out) i.dst ||| bits (stR i)
  | .grp g _ l :: r, out => (1 <<< g) ||| liveL l (liveG r out)
def liveD : D → Nat → Nat
  | .ops l, out => liveG (grpL l) out
  | .alt l a b, out => liveG (grpL l) (liveD a out ||| liveD b out)
def live : S → Nat → (Nat → Nat) → Nat → Nat
  | .skip, out, _, _ => out
  | .ops l, out, _, _ => liveG (grpL l) out
  | .draw d, out, _, _ => liveD d out
  | .seq a b, out, ex, rt => live a (live b out ex rt) ex rt ||| (live b out ex rt ^^^ (live b out ex rt &&& wrM a))
  | .cond c a b, out, ex, rt => bits (argR c) ||| (live a out ex rt ||| live b out ex rt)
  | .blk id a, out, ex, rt => live a out (fun i => if i = id then out else ex i) rt
  | .loop a, _, ex, rt => live a 0 ex rt
  | .exit id, _, ex, _ => ex id
  | .ret, _, _, rt => rt
  | .bad, _, _, _ => 0
  | .rng N x _ _ _ a b, out, _, _ => bits (argR x) ||| ((1 <<< N) ||| (out ||| live a (live b 0 (fun _ => 0) 0) (fun _ => 0) 0))
abbrev Kont := Env → AS → Prop
def gv (xs : List Value) (i : Nat) : Value := xs.getD i undef
def setL (ρ : Env) (xs : List Value) : List Nat → Nat → Env
  | [], _ => ρ
  | l :: L, k => up (setL ρ xs L (k + 1)) l (gv xs k)
theorem setL_off (ρ : Env) (xs : List Value) : ∀ (L : List Nat) (k i : Nat), i ∉ L → setL ρ xs L k i = ρ i
  | [], _, _, _ => rfl
  | l :: L, k, i, h => by
    simp only [List.mem_cons, not_or] at h
    simp only [setL, up, if_neg h.1]
    exact setL_off ρ xs L (k + 1) i h.2
theorem setL_on (ρ ρ' : Env) : ∀ (L : List Nat) (pre : List Value) (i : Nat), i ∈ L → setL ρ (pre ++ L.map ρ') L pre.length i = ρ' i
  | [], _, _, h => by cases h
  | l :: L, pre, i, h => by
    simp only [setL, up]
    by_cases e : i = l
    · subst e
      simp [gv]
    · rw [if_neg e]
      have := setL_on ρ ρ' L (pre ++ [ρ' l]) i (by simpa [e] using h)
      simpa using this
theorem setL_get (ρ ρ' : Env) (L : List Nat) (i : Nat) : setL ρ (L.map ρ') L 0 i = if i ∈ L then ρ' i else ρ i := by
  split
  · rename_i h; simpa using setL_on ρ ρ' L [] i h
  · rename_i h; exact setL_off _ _ _ _ _ h
def kJoin (J : List Value → AS → Prop) (body : (List Value → AS → Prop) → Prop) : Prop := body J
def kLoop (body : (List Value → AS → Prop) → List Value → AS → Prop) (xs : List Value) (s : AS) (_ : Dm body := ()) : Prop :=
  ∃ I : Nat → List Value → AS → Prop, (∃ n, I n xs s) ∧ ∀ n xs s, I n xs s → body (fun xs' s' => ∃ n', n' < n ∧ I n' xs' s') xs s
def kAlt (X Y : Prop) : Prop := X ∧ Y
def dsts (l : List St) : List Nat := l.flatMap dstL
def denL (P : Program) : List St → Env → AS → Kont → Prop
  | [], ρ, s, K => K ρ s
  | i :: r, ρ, s, K => insA P i.ins ρ s fun v s' => denL P r (upd ρ i.dst v) s' K
def kGrd (v : Value) (want : Bool) (X : (List Value → AS → Prop) → Prop) (us : List Value) (s : AS) (k : List Value → AS → Prop) (_ : Dm X := ()) (_ : Dm k := ()) : Prop := match v with | .bool b => if b = want then X k else k us s | _ => k us s
def denG (P : Program) : List G → Nat → Env → AS → Kont → Prop
  | [], _, ρ, s, K => K ρ s
  | .one i :: r, lv, ρ, s, K => match i.grd with | none => insA P i.ins ρ s fun v s' => denG P r lv (upd ρ i.dst v) s' K | some _ => False
  | .grp g want l :: r, lv, ρ, s, K =>
    Bool.rec (motive := fun _ => Prop) False
      (kGrd (ρ g) want (fun k => denL P l ρ s fun ρ' s' => k ((slots (bits (dsts l) &&& liveG r lv)).map ρ') s')
        ((slots (bits (dsts l) &&& liveG r lv)).map fun _ => undef) s
        (fun xs s' => denG P r lv (setL ρ xs (slots (bits (dsts l) &&& liveG r lv)) 0) s' K))
      (l.all (fun i => i.grd.isNone && i.dst != some g))
def denD (P : Program) : D → Nat → Env → AS → Kont → Prop
  | .ops l, lv, ρ, s, K => denG P (grpL l) lv ρ s K
  | .alt l a b, lv, ρ, s, K => denG P (grpL l) (liveD a lv ||| liveD b lv) ρ s fun ρ s => kAlt (denD P a lv ρ s K) (denD P b lv ρ s K)
def straight : S → Bool
  | .ops _ | .draw (.ops _) | .skip => true
  | _ => false
def small : S → Bool
  | .skip | .ret | .exit _ => true
  | _ => false
def den (P : Program) : S → Nat → (Nat → Nat) → Nat → Env → AS → Kont → (Nat → Kont) → Kont → Prop
  | .skip, _, _, _, ρ, s, K, _, _ => K ρ s
  | .ops l, lv, _, _, ρ, s, K, _, _ => denG P (grpL l) lv ρ s K
  | .draw d, lv, _, _, ρ, s, K, _, _ => denD P d lv ρ s K
  | .seq a b, lv, ex, rt, ρ, s, K, E, R =>
    Bool.rec (motive := fun _ => Prop)
      (kJoin (fun xs s' => den P b lv ex rt (setL ρ xs (slots (wrM a &&& live b lv ex rt)) 0) s' K E R) fun J =>
        den P a (live b lv ex rt) ex rt ρ s (fun ρ' s' => J ((slots (wrM a &&& live b lv ex rt)).map ρ') s') E R)
      (den P a (live b lv ex rt) ex rt ρ s (fun ρ' s' => den P b lv ex rt ρ' s' K E R) E R)
      (straight a || small b)
  | .cond c a b, lv, ex, rt, ρ, s, K, E, R => kCond (c.ev ρ) (den P a lv ex rt ρ s K E R) (den P b lv ex rt ρ s K E R)
  | .blk id a, lv, ex, rt, ρ, s, K, E, R => den P a lv (fun i => if i = id then lv else ex i) rt ρ s K (fun i => if i = id then K else E i) R
  | .loop a, _, ex, rt, ρ, s, _, E, R =>
    if live a (live a 0 ex rt) ex rt ||| live a 0 ex rt = live a 0 ex rt then
      kLoop (fun again xs s =>
        den P a (live a 0 ex rt) ex rt (setL ρ xs (slots (wrM a &&& live a 0 ex rt)) 0) s (fun ρ' s' => again ((slots (wrM a &&& live a 0 ex rt)).map ρ') s') E R) ((slots (wrM a &&& live a 0 ex rt)).map ρ) s
    else False
  | .exit id, _, _, _, ρ, s, _, E, _ => E id ρ s
  | .ret, _, _, _, ρ, s, _, _, R => R ρ s
  | .bad, _, _, _, _, _, _, _, _ => False
  | .rng N x ps _ _ a b, _, _, _, ρ, s, K, _, _ =>
    if decide ps.toList.Nodup then
      kRng P (x.ev ρ) (fun xs s' bg k => xs.length = ps.size ∧ den P a (live b 0 (fun _ => 0) 0) (fun _ => 0) 0 (up (setL ρ xs ps.toList 0) N undef) s'
          (fun ρ' s'' => bg s'' fun s3 => den P b 0 (fun _ => 0) 0 ρ' s3 (fun _ s4 => k s4) (fun _ _ _ => False) (fun _ _ => False)) (fun _ _ _ => False) (fun _ _ => False)) s
        (fun m s' => K (up ρ N (consM m (ρ N))) s')
    else False
def Agr (m : Nat) (ρ ρ' : Env) : Prop := ∀ i, m.testBit i = true → ρ i = ρ' i
structure Stt (σ0 : AS) (w0 : World) (σ : AS) (w : World) : Prop where
  sat : Sat σ w
  keep : KeepP σ0.live w0 w
  fol : Fol σ0 σ
def qEnd (K : Kont) (E : Nat → Kont) (R : Kont) : Exit → Env → AS → Prop := fun e ρ s => match e with | .normal => K ρ s | .exit i => E i ρ s | .ret => R ρ s | _ => False
def mEnd (lv : Nat) (ex : Nat → Nat) (rt : Nat) : Exit → Nat := fun e => match e with | .normal => lv | .exit i => ex i | _ => rt
def QQ (σ0 : AS) (w0 : World) (lv : Nat) (ex : Nat → Nat) (rt : Nat) (K : Kont) (E : Nat → Kont) (R : Kont) : Post := fun e ρa w => ∃ ρ σ, Agr (mEnd lv ex rt e) ρ ρa ∧ Stt σ0 w0 σ w ∧ qEnd K E R e ρ σ
section
variable {P : Program} {σ0 : AS} {w0 : World} {ρ ρa : Env} {σ : AS} {w : World} {lv rt : Nat} {ex : Nat → Nat} {K : Kont} {X : Nat → Kont} {R : Kont}
theorem Agr.orL {a b : Nat} {ρ ρ' : Env} (h : Agr (a ||| b) ρ ρ') : Agr a ρ ρ' := fun i hi => h i (by simp [Nat.testBit_or, hi])
theorem Agr.orR {a b : Nat} {ρ ρ' : Env} (h : Agr (a ||| b) ρ ρ') : Agr b ρ ρ' := fun i hi => h i (by simp [Nat.testBit_or, hi])
theorem Agr.upd_ {m : Nat} {d : Option Nat} {ρ ρ' : Env} (h : Agr (cut1 m d) ρ ρ') (v : Value) : Agr m (upd ρ d v) (upd ρ' d v) := fun i hi => by
  cases d with
  | none => exact h i hi
  | some d =>
    simp only [upd, up]
    split
    · rfl
    · rename_i hn
      exact h i (cut1_bit hi (fun e => hn (by injection e with e; exact e.symm)))
theorem Agr.of_bits {l : List Nat} {ρ ρ' : Env} (h : Agr (bits l) ρ ρ') : ∀ t, t ∈ l → ρ t = ρ' t := fun t ht => h t ((bits_mem l t).2 ht)
theorem Agr.handed {m : Nat} {W : List Nat} {ρ ρ1 ρ2 : Env} (h : ∀ i, i ∈ W → m.testBit i = true → ρ1 i = ρ2 i) (ho : ∀ i, i ∉ W → m.testBit i = true → ρ i = ρ2 i) : Agr m (setL ρ ((slots (bits W &&& m)).map ρ1) (slots (bits W &&& m)) 0) ρ2 := by
  intro i hi
  rw [setL_get]
  split
  · rename_i hm
    rw [slots_mem, Nat.testBit_and, Bool.and_eq_true] at hm
    exact h i ((bits_mem _ _).1 hm.1) hi
  · rename_i hn
    refine ho i (fun hw => hn ?_) hi
    rw [slots_mem, Nat.testBit_and, hi, Bool.and_true]
    exact (bits_mem _ _).2 hw
theorem Stt.out {k : Value → AS → Prop} {v : Value} {w' : World} (h : Stt σ0 w0 σ w) (hz : size w0 = σ0.n) (ho : Out σ w k v w') : ∃ σ', Stt σ0 w0 σ' w' ∧ k v σ' := by
  obtain ⟨h1, σ', h2, h3, h4⟩ := ho
  exact ⟨σ', ⟨h2, h.keep.step h1 (fun i hi => by
    rcases h.fol.m i hi with h | h
    · exact .inl h
    · exact .inr (by omega)), h.fol.trans h3⟩, h4⟩
theorem denL_ok (hz : size w0 = σ0.n) {Q : Post} : ∀ {l : List St} {lv : Nat} {ρ ρa : Env} {σ : AS} {w : World}, denL P l ρ σ K → (∀ i ∈ l, i.grd = none) → Agr (liveL l lv) ρ ρa → Stt σ0 w0 σ w →
    (∀ ρ ρa σ w, Agr lv ρ ρa → Stt σ0 w0 σ w → K ρ σ → Q .normal ρa w) → vcL P l Q ρa w
  | [], lv, ρ, ρa, σ, w, h, _, ha, hs, hq => hq _ _ _ _ ha hs h
  | i :: r, lv, ρ, ρa, σ, w, h, hg, ha, hs, hq => by
    have hr : ∀ t, t ∈ insR i.ins → ρ t = ρa t := fun t ht => ha.orR.of_bits t (by simp [stR, ht])
    replace h : insA P i.ins ρ σ fun v s' => denL P r (upd ρ i.dst v) s' K := h
    rw [insA_congr hr] at h
    simp only [vcL, hg i (by simp)]
    refine vcI_mono ?_ (insA_ok h hs.sat)
    intro v w' ho
    obtain ⟨σ', hs', hv⟩ := hs.out hz ho
    exact denL_ok hz hv (fun j hj => hg j (by simp [hj])) (ha.orL.upd_ _) hs' hq
theorem under_run {g : Nat} {want : Bool} {Q : Post} : ∀ {l : List St} {ρ : Env} {w : World}, (∀ i ∈ l, i.grd = none ∧ i.dst ≠ some g) → ρ g = .bool want → vcL P l Q ρ w → vcL P (l.map (under g want)) Q ρ w
  | [], _, _, _, _, h => h
  | i :: r, ρ, w, hl, hg, h => by
    have h1 := hl i (by simp)
    simp only [vcL, h1.1] at h
    simp only [List.map_cons, vcL, under, grdP, hg, if_true]
    refine vcI_mono ?_ h
    intro v w' h
    refine under_run (fun j hj => hl j (by simp [hj])) ?_ h
    cases hd : i.dst with
    | none => exact hg
    | some d =>
      have : ¬ g = d := fun e => h1.2 (by rw [hd, e])
      simp only [upd, up, if_neg this]; exact hg
theorem under_skip {g : Nat} {want : Bool} {Q : Post} : ∀ {l : List St} {ρ : Env} {w : World}, (∀ i ∈ l, i.grd = none ∧ i.dst ≠ some g) → (∀ b, ρ g = .bool b → b ≠ want) → (∀ ρ', (∀ i, ρ' i = if i ∈ dsts l then undef else ρ i) → Q .normal ρ' w) → vcL P (l.map (under g want)) Q ρ w
  | [], ρ, w, _, _, hq => hq ρ (fun i => by simp [dsts])
  | i :: r, ρ, w, hl, hg, hq => by
    have h1 := hl i (by simp)
    have next : vcL P (r.map (under g want)) Q (upd ρ i.dst undef) w := by
      refine under_skip (fun j hj => hl j (by simp [hj])) ?_ ?_
      · cases hd : i.dst with
        | none => exact hg
        | some d =>
          have : ¬ g = d := fun e => h1.2 (by rw [hd, e])
          simp only [upd, up, if_neg this]; exact hg
      · intro ρ' hρ
        refine hq ρ' (fun j => ?_)
        rw [hρ j]
        cases hd : i.dst with
        | none => simp [dsts, dstL, hd, upd]
        | some d =>
          simp only [dsts, List.flatMap_cons, dstL, hd, List.mem_append, List.mem_singleton, upd, up]
          by_cases e : j = d <;> by_cases e2 : j ∈ r.flatMap dstL <;> simp [e, e2]
    simp only [List.map_cons, vcL, under, grdP]
    split
    · rename_i b hb
      rw [if_neg (hg b hb)]
      exact next
    · exact next
theorem wrL_dsts : ∀ l : List St, wrL l = dsts l
  | [] => rfl
  | i :: r => by
    have := wrL_dsts r
    simp only [wrL, this, dsts, List.flatMap_cons]
    rfl
theorem denG_ok (hz : size w0 = σ0.n) {Q : Post} : ∀ {l : List G} {lv : Nat} {ρ ρa : Env} {σ : AS} {w : World}, denG P l lv ρ σ K → Agr (liveG l lv) ρ ρa → Stt σ0 w0 σ w →
    (∀ ρ ρa σ w, Agr lv ρ ρa → Stt σ0 w0 σ w → K ρ σ → Q .normal ρa w) → vcL P (unG l) Q ρa w
  | [], lv, ρ, ρa, σ, w, h, ha, hs, hq => hq _ _ _ _ ha hs h
  | .one i :: r, lv, ρ, ρa, σ, w, h, ha, hs, hq => by
    simp only [denG] at h
    split at h
    · rename_i hg
      have hr : ∀ t, t ∈ insR i.ins → ρ t = ρa t := fun t ht => ha.orR.of_bits t (by simp [stR, ht])
      rw [insA_congr hr] at h
      simp only [unG, vcL, hg]
      refine vcI_mono ?_ (insA_ok h hs.sat)
      intro v w' ho
      obtain ⟨σ', hs', hv⟩ := hs.out hz ho
      exact denG_ok hz hv (ha.orL.upd_ _) hs' hq
    · exact h.elim
  | .grp g want l :: r, lv, ρ, ρa, σ, w, h, ha, hs, hq => by
    simp only [denG] at h
    cases hall : l.all (fun i => i.grd.isNone && i.dst != some g) with
    | false => rw [hall] at h; exact h.elim
    | true =>
      rw [hall] at h
      replace ha : Agr ((1 <<< g) ||| liveL l (liveG r lv)) ρ ρa := ha
      have hl : ∀ i ∈ l, i.grd = none ∧ i.dst ≠ some g := fun i hi => by
        have := List.all_eq_true.1 hall i hi
        simpa using this
      have hgv : ρ g = ρa g := ha.orL g (by rw [one_bit]; simp)
      simp only [unG]
      rw [vcL_append]
      have cont : ∀ (ρ1 ρ2 : Env) (σ' : AS) (w' : World), (∀ i, i ∈ dsts l → (liveG r lv).testBit i = true → ρ1 i = ρ2 i) → (∀ i, i ∉ dsts l → (liveG r lv).testBit i = true → ρ i = ρ2 i) → Stt σ0 w0 σ' w' →
          denG P r lv (setL ρ ((slots (bits (dsts l) &&& liveG r lv)).map ρ1) (slots (bits (dsts l) &&& liveG r lv)) 0) σ' K → vcL P (unG r) Q ρ2 w' :=
        fun ρ1 ρ2 σ' w' h1 h2 h3 h4 => denG_ok hz h4 (Agr.handed h1 h2) h3 hq
      have keep : ∀ i, i ∉ dsts l → (liveG r lv).testBit i = true → ρ i = ρa i := by
        have key : ∀ (l : List St) (m : Nat) (i : Nat), i ∉ dsts l → m.testBit i = true → (liveL l m).testBit i = true := by
          intro l
          induction l with
          | nil => intro m i _ h; exact h
          | cons j l ih =>
            intro m i hn h
            simp only [dsts, List.flatMap_cons, List.mem_append, not_or] at hn
            simp only [liveL, Nat.testBit_or, Bool.or_eq_true]
            refine .inl (cut1_bit (ih m i hn.2 h) (fun e => hn.1 ?_))
            simp [dstL, e]
        exact fun i hn hi => ha.orR i (key l _ i hn hi)
      unfold kGrd at h
      split at h
      · rename_i b hb
        split at h
        · rename_i hbw
          subst hbw
          refine under_run hl (by rw [← hgv, hb]) ?_
          refine vcL_mono ?_ (vcL_off (denL_ok hz (Q := fun e ρ2 w' => ∃ ρ1 σ', e = .normal ∧ Agr (liveG r lv) ρ1 ρ2 ∧ Stt σ0 w0 σ' w' ∧ denG P r lv (setL ρ ((slots (bits (dsts l) &&& liveG r lv)).map ρ1) (slots (bits (dsts l) &&& liveG r lv)) 0) σ' K)
            h (fun i hi => (hl i hi).1) ha.orR hs (fun ρ1 ρ2 σ' w' h1 h2 h3 => ⟨ρ1, σ', rfl, h1, h2, h3⟩)))
          rintro e ρ2 w' ⟨⟨ρ1, σ', rfl, h1, h2, h3⟩, ho⟩
          refine cont ρ1 ρ2 σ' w' (fun i _ hi => h1 i hi) (fun i hn hi => ?_) h2 h3
          rw [ho i (by rw [wrL_dsts]; exact hn)]
          exact keep i hn hi
        · rename_i hbw
          refine under_skip hl (fun b' hb' => ?_) ?_
          · rw [← hgv, hb] at hb'
            injection hb' with hb'; subst hb'; exact hbw
          · intro ρ' hρ
            refine cont (fun _ => undef) ρ' σ w (fun i hm _ => by rw [hρ i, if_pos hm]) (fun i hn hi => ?_) hs h
            · rw [hρ i, if_neg hn]; exact keep i hn hi
      · rename_i hnb
        refine under_skip hl (fun b' hb' => ?_) ?_
        · rw [← hgv] at hb'
          exact (hnb b' hb').elim
        · intro ρ' hρ
          refine cont (fun _ => undef) ρ' σ w (fun i hm _ => by rw [hρ i, if_pos hm]) (fun i hn hi => ?_) hs h
          · rw [hρ i, if_neg hn]; exact keep i hn hi
theorem denD_ok (hz : size w0 = σ0.n) {Q : Post} : ∀ {d : D} {lv : Nat} {ρ ρa : Env} {σ : AS} {w : World}, denD P d lv ρ σ K → Agr (liveD d lv) ρ ρa → Stt σ0 w0 σ w →
    (∀ ρ ρa σ w, Agr lv ρ ρa → Stt σ0 w0 σ w → K ρ σ → Q .normal ρa w) → vcD P d Q ρa w
  | .ops l, lv, ρ, ρa, σ, w, h, ha, hs, hq => by
    show vcL P l Q ρa w
    rw [← unG_grpL l]
    exact denG_ok hz h ha hs hq
  | .alt l a b, lv, ρ, ρa, σ, w, h, ha, hs, hq => by
    show vcL P l (fun _ ρ w => vcD P a Q ρ w ∧ vcD P b Q ρ w) ρa w
    rw [← unG_grpL l]
    refine denG_ok hz (K := fun ρ s => kAlt (denD P a lv ρ s K) (denD P b lv ρ s K)) h ha hs ?_
    intro ρ1 ρ2 σ' w' h1 h2 h3
    exact ⟨denD_ok hz h3.1 h1.orL h2 hq, denD_ok hz h3.2 h1.orR h2 hq⟩
theorem qq_end {lv lv' : Nat} {K K' : Kont} (e : Exit) (he : e ≠ .normal) (ρ : Env) (w : World) (h : QQ σ0 w0 lv ex rt K X R e ρ w) : QQ σ0 w0 lv' ex rt K' X R e ρ w := by
  obtain ⟨ρ', σ', h1, h2, h3⟩ := h
  cases e with
  | normal => exact (he rfl).elim
  | _ => exact ⟨ρ', σ', h1, h2, h3⟩
def wfS (P : Program) : S → Prop
  | .seq a b => wfS P a ∧ wfS P b
  | .cond _ a b => wfS P a ∧ wfS P b
  | .blk _ a => wfS P a
  | .loop a => wfS P a
  | .rng N _ _ as bd a b => (∃ hs, a = trS P N hs as ∧ b = trS P N hs bd) ∧ noR a = true ∧ noR b = true ∧ wfS P a ∧ wfS P b
  | _ => True
theorem trS_wf {N : Nat} {hs : Hints} : ∀ c : Code, wfS P (trS P N hs c) := by
  intro c
  induction c with
  | region id ops draw =>
    cases draw with
    | false => simp only [trS]; split <;> trivial
    | true => simp only [trS]; split <;> trivial
  | seq a b iha ihb => exact ⟨iha, ihb⟩
  | cond c a b iha ihb =>
    simp only [trS]
    split
    · exact ⟨iha, ihb⟩
    · trivial
  | block id a ih => exact ih
  | loop a ih => exact ih
  | scope a ih => exact ih
  | rangeFunc g ps as bd iha ihb =>
    simp only [trS]
    split
    · split
      · rename_i hc
        simp only [Bool.and_eq_true] at hc
        exact ⟨⟨hs, rfl, rfl⟩, hc.2.1, hc.2.2, iha, ihb⟩
      · trivial
    · trivial
  | _ => trivial
theorem setPs_setL (ρ : Env) : ∀ (ps : List Nat) (pre vs : List Value) (i : Nat), ps.Nodup → vs.length = ps.length → setPs ρ ps vs i = setL ρ (pre ++ vs) ps pre.length i
  | [], _, vs, i, _, hl => by cases vs <;> rfl
  | p :: ps, pre, [], i, _, hl => by simp at hl
  | p :: ps, pre, v :: vs, i, hn, hl => by
    rw [List.nodup_cons] at hn
    have ih := fun (ρ : Env) => setPs_setL ρ ps (pre ++ [v]) vs i hn.2 (by simpa using hl)
    have e1 : setPs ρ (p :: ps) (v :: vs) i = setPs (up ρ p v) ps vs i := rfl
    have e2 : setL ρ (pre ++ v :: vs) (p :: ps) pre.length i = up (setL ρ (pre ++ v :: vs) ps (pre.length + 1)) p (gv (pre ++ v :: vs) pre.length) i := rfl
    have e3 : gv (pre ++ v :: vs) pre.length = v := by simp [gv]
    rw [e1, e2, e3, ih]
    have e4 : pre ++ [v] ++ vs = pre ++ v :: vs := by simp
    rw [e4, List.length_append, List.length_singleton]
    simp only [up]
    by_cases hi : i = p
    · subst hi
      rw [if_pos rfl, setL_off _ _ _ _ _ hn.1, up, if_pos rfl]
    · rw [if_neg hi]
      have : ∀ (L : List Nat) (k : Nat), setL (up ρ p v) (pre ++ v :: vs) L k i = setL ρ (pre ++ v :: vs) L k i := by
        intro L
        induction L with
        | nil => intro k; simp [setL, up, hi]
        | cons l L ih => intro k; simp only [setL, up]; split <;> first | rfl | exact ih _
      exact this _ _
theorem setPs_agr {m : Nat} {ρ ρa : Env} {ps : List Nat} {vs : List Value} {N : Nat} (hn : ps.Nodup) (hl : vs.length = ps.length) (h : Agr m ρ ρa) : Agr m (up (setL ρ vs ps 0) N undef) (up (setPs ρa ps vs) N undef) := by
  intro i hi
  simp only [up]
  split
  · rfl
  · rw [setPs_setL ρa ps [] vs i hn hl]
    have : ∀ (L : List Nat) (k : Nat), setL ρ ([] ++ vs) L k i = setL ρa ([] ++ vs) L k i := by
      intro L
      induction L with
      | nil => intro k; exact h i hi
      | cons l L ih => intro k; simp only [setL, up]; split <;> first | rfl | exact ih _
    exact this ps 0
theorem den_ok : ∀ (s : S), wfS P s → ∀ {σ0 : AS} {w0 : World} (hz : size w0 = σ0.n) {lv rt : Nat} {ex : Nat → Nat} {ρ ρa : Env} {σ : AS} {w : World} {K : Kont} {X : Nat → Kont} {R : Kont}, den P s lv ex rt ρ σ K X R → Agr (live s lv ex rt) ρ ρa → Stt σ0 w0 σ w → vcS P s (QQ σ0 w0 lv ex rt K X R) ρa w := by
  intro s
  induction s with
  | skip => intro hwf σ0 w0 hz lv rt ex ρ ρa σ w K X R h ha hs; exact ⟨ρ, σ, ha, hs, h⟩
  | ops l =>
    intro hwf σ0 w0 hz lv rt ex ρ ρa σ w K X R h ha hs
    show vcL P l _ ρa w
    rw [← unG_grpL l]
    exact denG_ok hz h ha hs (fun ρ ρa σ w h1 h2 h3 => ⟨ρ, σ, h1, h2, h3⟩)
  | draw d =>
    intro hwf σ0 w0 hz lv rt ex ρ ρa σ w K X R h ha hs
    have hs' : Stt σ0 w0 σ (w.drewN 1) := ⟨hs.sat.drewN 1, hs.keep.step (KeepP.drewN (fun _ => False) w 1) (fun _ h => h.elim), hs.fol⟩
    exact denD_ok hz h ha hs' (fun ρ ρa σ w h1 h2 h3 => ⟨ρ, σ, h1, h2, h3⟩)
  | seq a b iha ihb =>
    intro hwf σ0 w0 hz lv rt ex ρ ρa σ w K X R h ha hs
    replace ha : Agr (live a (live b lv ex rt) ex rt ||| (live b lv ex rt ^^^ (live b lv ex rt &&& wrM a))) ρ ρa := ha
    show vcS P a (thenQ (vcS P b (QQ σ0 w0 lv ex rt K X R)) (QQ σ0 w0 lv ex rt K X R)) ρa w
    simp only [den] at h
    cases hsb : (straight a || small b) with
    | true =>
      rw [hsb] at h
      refine vcS_mono ?_ (iha hwf.1 hz h ha.orL hs)
      intro e ρ1 w1 hq
      cases e with
      | normal =>
        obtain ⟨ρ', σ', h1, h2, h3⟩ := hq
        exact ihb hwf.2 hz h3 h1 h2
      | _ => exact qq_end _ (by simp) _ _ hq
    | false =>
      rw [hsb] at h
      refine vcS_mono ?_ (vcS_off (iha hwf.1 hz h ha.orL hs))
      intro e ρ1 w1 ⟨hq, ho⟩
      cases e with
      | normal =>
        obtain ⟨ρ', σ', h1, h2, h3⟩ := hq
        refine ihb hwf.2 hz h3 (Agr.handed (fun i _ hi => h1 i hi) (fun i hn hi => ?_)) h2
        rw [ho i hn]
        refine ha.orR i ?_
        have hw : (wrM a).testBit i = false := by
          cases hb : (wrM a).testBit i
          · rfl
          · exact (hn ((bits_mem _ _).1 hb)).elim
        rw [Nat.testBit_xor, Nat.testBit_and, hi, hw]; rfl
      | _ => exact qq_end _ (by simp) _ _ hq
  | cond c a b iha ihb =>
    intro hwf σ0 w0 hz lv rt ex ρ ρa σ w K X R h ha hs
    replace ha : Agr (bits (argR c) ||| (live a lv ex rt ||| live b lv ex rt)) ρ ρa := ha
    have hc : c.ev ρ = c.ev ρa := arg_congr (ha.orL.of_bits)
    show condP (c.ev ρa) _ _
    replace h : kCond (c.ev ρ) (den P a lv ex rt ρ σ K X R) (den P b lv ex rt ρ σ K X R) := h
    rw [hc] at h
    unfold kCond at h
    split at h
    · rename_i hv; rw [hv]; exact iha hwf.1 hz h ha.orR.orL hs
    · rename_i hv; rw [hv]; exact ihb hwf.2 hz h ha.orR.orR hs
    · exact h.elim
  | blk id a ih =>
    intro hwf σ0 w0 hz lv rt ex ρ ρa σ w K X R h ha hs
    show vcS P a (blkQ id (QQ σ0 w0 lv ex rt K X R)) ρa w
    refine vcS_mono ?_ (ih hwf hz h ha hs)
    intro e ρ1 w1 hq
    cases e with
    | exit i =>
      obtain ⟨ρ', σ', h1, h2, h3⟩ := hq
      simp only [blkQ]
      replace h1 : Agr (if i = id then lv else ex i) ρ' ρ1 := h1
      replace h3 : (if i = id then K else X i) ρ' σ' := h3
      by_cases hi : i = id
      · rw [if_pos hi]
        rw [if_pos hi] at h1 h3
        exact ⟨ρ', σ', h1, h2, h3⟩
      · rw [if_neg hi]
        rw [if_neg hi] at h1 h3
        exact ⟨ρ', σ', h1, h2, h3⟩
    | _ =>
      obtain ⟨ρ', σ', h1, h2, h3⟩ := hq
      exact ⟨ρ', σ', h1, h2, h3⟩
  | loop a ih =>
    intro hwf σ0 w0 hz lv rt ex ρ ρa σ w K X R h ha hs
    replace ha : Agr (live a 0 ex rt) ρ ρa := ha
    simp only [den] at h
    split at h
    · rename_i hfix
      obtain ⟨I, ⟨n0, h0⟩, hr⟩ := h
      refine ⟨fun n ρ1 w1 => ∃ xs σ1, I n xs σ1 ∧ Agr (live a 0 ex rt) (setL ρ xs (slots (wrM a &&& live a 0 ex rt)) 0) ρ1 ∧ Stt σ0 w0 σ1 w1 ∧ Off (wrS a) ρa ρ1, ⟨n0, _, σ, h0, ?_, hs, Off.refl _ _⟩, ?_⟩
      · exact Agr.handed (fun i _ hi => ha i hi) (fun i _ hi => ha i hi)
      · intro n ρ1 w1 ⟨xs, σ1, hi, ha1, hs1, ho1⟩
        have hsub : ∀ i, (live a (live a 0 ex rt) ex rt).testBit i = true → (live a 0 ex rt).testBit i = true := fun i hi => by
          rw [← hfix, Nat.testBit_or, hi, Bool.true_or]
        refine vcS_mono ?_ (vcS_off (ih hwf hz (hr n xs σ1 hi) (fun i hi => ha1 i (hsub i hi)) hs1))
        intro e ρ2 w2 ⟨hq, ho⟩
        cases e with
        | normal =>
          obtain ⟨ρ', σ', h1, h2, n', hn, h3⟩ := hq
          refine ⟨n', hn, _, σ', h3, Agr.handed (fun i _ hi => h1 i hi) (fun i hn hi => ?_), h2, Off.trans ho1 ho⟩
          rw [(Off.trans ho1 ho) i hn]
          exact ha i hi
        | _ => exact qq_end _ (by simp) _ _ hq
    · exact h.elim
  | exit id => intro hwf σ0 w0 hz lv rt ex ρ ρa σ w K X R h ha hs; exact ⟨ρ, σ, ha, hs, h⟩
  | ret => intro hwf σ0 w0 hz lv rt ex ρ ρa σ w K X R h ha hs; exact ⟨ρ, σ, ha, hs, h⟩
  | bad => intro hwf σ0 w0 hz lv rt ex ρ ρa σ w K X R h ha hs; exact h.elim
  | rng N x ps as bd a b iha ihb =>
    intro hwf σ0 w0 hz lv rt ex ρ ρa σ w K X R h ha hs
    replace ha : Agr (bits (argR x) ||| ((1 <<< N) ||| (lv ||| live a (live b 0 (fun _ => 0) 0) (fun _ => 0) 0))) ρ ρa := ha
    obtain ⟨⟨hh, ea, eb⟩, hna, hnb, hwa, hwb⟩ := hwf
    have hx : x.ev ρ = x.ev ρa := arg_congr (ha.orL.of_bits)
    simp only [den] at h
    split at h
    · rename_i hnd
      have hnd := of_decide_eq_true hnd
      rw [hx] at h
      show rngP P N (x.ev ρa) ps as bd ρa w _
      unfold kRng at h
      split at h
      · rename_i g first cap hf
        obtain ⟨hok, h⟩ := h
        rw [hf]
        dsimp only [rngP]
        refine ⟨hok, fun fn => ?_⟩
        have hsz := hs.sat.sz
        have hk := h (.loop (recL N ρa ps as bd (size w) fn .ready)) (.loop (recL N ρa ps as bd (size w) fn .busy)) ?_
        · have s1 : Sat (σ.new (.other (.deferred (some [])))) (w.alloc (.deferred (some []))) := hs.sat.new_ (fun _ he => he)
          have s2 := s1.new_ (o := .loop (recL N ρa ps as bd (size w) fn .ready)) (ob := .other (.loop (recL N ρa ps as bd (size w) fn .ready))) (fun _ he => he)
          have hc := hk _ s2
          rw [← hsz] at hc
          refine callP_mono hc ?_
          rintro v w' ⟨hkeep, σ', hsat', hfol', hm, hK⟩
          have hl : w'.heap[size w + 1]? = some (.loop (recL N ρa ps as bd (size w) fn .ready)) := hsat'.m _ _ hm
          refine ⟨hl, _, σ'.put (size w + 1) (.other (.loop (recL N ρa ps as bd (size w) fn .exhausted))), ?_, ⟨?_, ?_, ?_⟩, hK _⟩
          · intro i hi
            simp only [up]
            split
            · rename_i e
              have e2 : ρ N = ρa N := ha.orR.orL N (by rw [one_bit]; simp)
              rw [e2]
            · exact ha.orR.orR.orL i hi
          · exact hsat'.obj_ hm _
          · have k1 : KeepP σ.live w (w.alloc (.deferred (some []))) := KeepP.alloc _ _ _
            have k2 := k1.step (KeepP.alloc (fun _ => False) (w.alloc (.deferred (some []))) (.loop (recL N ρa ps as bd (size w) fn .ready))) (fun _ h => h.elim)
            have hlive : ∀ i, AS.live ((σ.new (.other (.deferred (some [])))).new (.other (.loop (recL N ρa ps as bd (size w) fn .ready)))) i → σ.live i ∨ size w ≤ i := by
              intro i hi
              unfold AS.live at hi ⊢
              by_cases e1 : i = σ.n + 1
              · exact .inr (by omega)
              · rw [new_ne (by rw [new_n]; exact e1)] at hi
                by_cases e2 : i = σ.n
                · exact .inr (by omega)
                · rw [new_ne e2] at hi
                  exact .inl hi
            have k3 := k2.step hkeep hlive
            have k4 := k3.step (KeepP.obj_ (S := fun i => i = size w + 1) rfl (.loop (recL N ρa ps as bd (size w) fn .exhausted))) (fun i hi => .inr (by omega))
            exact hs.keep.step k4 (fun i hi => by
              rcases hs.fol.m i hi with h | h
              · exact .inl h
              · exact .inr (by omega))
          · exact ((hs.fol.trans (Fol.new _ _)).trans (Fol.new _ _)).trans (hfol'.trans (Fol.put _ _ _))
        · intro args σ1 k' hm1 hB w1 hw1
          obtain ⟨hlen, hB⟩ := hB
          have hl1 : w1.heap[σ.n + 1]? = some (.loop (recL N ρa ps as bd (size w) fn .ready)) := hw1.m _ _ hm1
          have hsz1 := hw1.sz
          refine yld_ok (N := N) (hs := hh) (ρ := ρa) hl1 hlen ⟨ea ▸ hna, eb ▸ hnb⟩ ?_
          rw [← ea, ← eb]
          have hagr : Agr (live a (live b 0 (fun _ => 0) 0) (fun _ => 0) 0) (up (setL ρ args ps.toList 0) N undef) (up (setPs ρa ps.toList args) N undef) :=
            setPs_agr hnd (by simpa using hlen) ha.orR.orR.orR
          refine vcS_mono ?_ (iha hwa (σ0 := σ1) (w0 := w1) hsz1 hB hagr ⟨hw1, KeepP.refl _ _, Fol.refl _⟩)
          rintro e ρ2 w2 ⟨ρ2', σ2, h1, h2, h3⟩
          cases e with
          | normal =>
            obtain ⟨hm2, h3⟩ := h3
            refine ⟨h2.sat.m _ _ hm2, ?_⟩
            have hs3 : Stt σ1 w1 (σ2.put (σ.n + 1) (.other (.loop (recL N ρa ps as bd (size w) fn .busy)))) (w2.putObj (σ.n + 1) (.loop (recL N ρa ps as bd (size w) fn .busy))) :=
              ⟨h2.sat.obj_ hm2 _, h2.keep.step (KeepP.obj_ (S := fun i => i = σ.n + 1) rfl _) (fun i hi => .inl (by rw [hi]; unfold AS.live; rw [hm1]; simp)), h2.fol.trans (Fol.put _ _ _)⟩
            refine vcS_mono ?_ (ihb hwb hsz1 h3 h1 hs3)
            rintro e ρ4 w4 ⟨ρ4', σ4, h5, h6, h7⟩
            cases e with
            | normal =>
              obtain ⟨hm4, h7⟩ := h7
              refine ⟨h6.sat.m _ _ hm4, ?_⟩
              exact ⟨h6.keep.step (KeepP.obj_ (S := fun i => i = σ.n + 1) rfl _) (fun i hi => .inl (by rw [hi]; unfold AS.live; rw [hm1]; simp)), _, h6.sat.obj_ hm4 _, h6.fol.trans (Fol.put _ _ _), h7⟩
            | exit i => exact h7.elim
            | ret => exact h7.elim
            | goto l => exact h7.elim
            | panic ch => exact h7.elim
            | outgrown => exact h7.elim
          | exit i => exact h3.elim
          | ret => exact h3.elim
          | goto l => exact h3.elim
          | panic ch => exact h3.elim
          | outgrown => exact h3.elim
      · exact h.elim
    · exact h.elim
def kRet : List RV → Env → AS → (List Value → Prop) → Prop
  | [], _, _, k => k []
  | .t i :: r, ρ, s, k => kRet r ρ s fun vs => k (ρ i :: vs)
  | .ld i :: r, ρ, s, k => kLd s (ρ i) fun v => kRet r ρ s fun vs => k (v :: vs)
  | .ldN n i :: r, ρ, s, k => kLdN s n (ρ i) fun v => kRet r ρ s fun vs => k (v :: vs)
def rvR : List RV → List Nat
  | [] => []
  | .t i :: r | .ld i :: r | .ldN _ i :: r => i :: rvR r
def denF (P : Program) (sf : SF) (args : List Value) (s : AS) (k : Value → AS → Prop) : Prop :=
  den P sf.body (bits (sf.n :: rvR sf.res)) (fun _ => 0) (bits (sf.n :: rvR sf.res)) (ini args) s (fun ρ s' => kFin P (valsOf (ρ sf.n)) s' fun s' => kRet sf.res ρ s' fun vs => k (tupV vs) s') (fun _ _ _ => False) (fun ρ s' => kFin P (valsOf (ρ sf.n)) s' fun s' => kRet sf.res ρ s' fun vs => k (tupV vs) s')
theorem kRet_ok (hs : Sat σ w) : ∀ {l : List RV} {k : List Value → Prop} {ρ ρa : Env}, kRet l ρ σ k → Agr (bits (rvR l)) ρ ρa → resP l ρa w k
  | [], k, ρ, ρa, h, _ => h
  | .t i :: r, k, ρ, ρa, h, ha => by
    have := kRet_ok hs (l := r) h (ρa := ρa) (fun j hj => ha j ((bits_mem _ _).2 (by simp [rvR, (bits_mem _ _).1 hj])))
    have e : ρ i = ρa i := ha i ((bits_mem _ _).2 (by simp [rvR]))
    rw [e] at this
    exact this
  | .ld i :: r, k, ρ, ρa, h, ha => by
    have e : ρ i = ρa i := ha i ((bits_mem _ _).2 (by simp [rvR]))
    obtain ⟨v, hv, hk⟩ := seqO_ex (show seqO (ldS σ (ρ i)) _ from h)
    rw [e] at hv
    show seqO (ldV w (ρa i)) _
    rw [hs.ldS hv]
    exact kRet_ok hs (l := r) hk (fun j hj => ha j ((bits_mem _ _).2 (by simp [rvR, (bits_mem _ _).1 hj])))
  | .ldN n i :: r, k, ρ, ρa, h, ha => by
    have e : ρ i = ρa i := ha i ((bits_mem _ _).2 (by simp [rvR]))
    obtain ⟨v, hv, hk⟩ := seqO_ex (show seqO (ldNS σ n (ρ i)) _ from h)
    rw [e] at hv
    show seqO (ldNV w n (ρa i)) _
    rw [hs.ldN hv]
    exact kRet_ok hs (l := r) hk (fun j hj => ha j ((bits_mem _ _).2 (by simp [rvR, (bits_mem _ _).1 hj])))
theorem kFin_ok {σ0 : AS} {w0 : World} : ∀ {l : List Value} {σ : AS} {w : World} {k : AS → Prop} {k' : World → Prop}, kFin P l σ k → Stt σ0 w0 σ w → size w0 = σ0.n → (∀ σ w, Stt σ0 w0 σ w → k σ → k' w) → finP P l w k'
  | [], σ, w, k, k', h, hs, _, hk => hk _ _ hs h
  | x :: r, σ, w, k, k', h, hs, hz, hk => by
    unfold kFin at h
    split at h
    · rename_i heq; cases heq
    · rename_i kd D r' heq
      injection heq with e1 e2
      subst e1; subst e2
      obtain ⟨hm, h⟩ := h
      refine ⟨hs.sat.m _ _ hm, kFin_ok h ⟨hs.sat.obj_ hm _, hs.keep.step (KeepP.obj_ (S := fun i => i = D.toNat) rfl _) (fun i hi => ?_), hs.fol.trans (Fol.put _ _ _)⟩ hz hk⟩
      subst hi
      rcases hs.fol.m D.toNat (by rw [hm]; simp) with h | h
      · exact .inl h
      · exact .inr (by omega)
    · rename_i f first cap r' heq
      injection heq with e1 e2
      subst e1; subst e2
      obtain ⟨hok, h⟩ := h
      refine ⟨hok, CallsDIn.mono (h w hs.sat) ?_⟩
      rintro e u' w' ⟨hu, v, he, hkp, σ', h2, h3, h4⟩
      refine ⟨hu, v, he, kFin_ok h4 ⟨h2, hs.keep.step hkp (fun i hi => ?_), hs.fol.trans h3⟩ hz hk⟩
      rcases hs.fol.m i hi with h | h
      · exact .inl h
      · exact .inr (by omega)
    · exact h.elim
theorem denF_ok {hints : Hints} {f : FuncId} {sf : SF} {args : List Value} {k : Value → AS → Prop} (hf : trF P hints f = some sf) (ha : args.length = sf.k) (h : denF P sf args σ k) : kCall P f args σ k := by
  intro w hs
  refine fn_ok hf ha ?_
  have hwf : wfS P sf.body := by
    simp only [trF, Option.bind_eq_some_iff] at hf
    obtain ⟨fn, hfn, c, hc, rs, hrs, hf⟩ := hf
    split at hf
    · injection hf with hf; subst hf; exact trS_wf c
    · cases hf
  refine vcS_mono ?_ (den_ok sf.body hwf (σ0 := σ) (w0 := w) hs.sz h (ρa := ini args) (fun _ _ => rfl) ⟨hs, KeepP.refl _ _, Fol.refl _⟩)
  rintro e ρ w' ⟨ρ', σ', h1, h2, h3⟩
  have key : Agr (bits (sf.n :: rvR sf.res)) ρ' ρ → kFin P (valsOf (ρ' sf.n)) σ' (fun σ' => kRet sf.res ρ' σ' (fun vs => k (tupV vs) σ')) → finP P (valsOf (ρ sf.n)) w' fun w' => resP sf.res ρ w' fun vs => KeepP σ.live w w' ∧ ∃ σ', Sat σ' w' ∧ Fol σ σ' ∧ k (tupV vs) σ' := by
    intro h1 h3
    have hN : ρ' sf.n = ρ sf.n := h1 _ ((bits_mem _ _).2 (by simp))
    rw [hN] at h3
    refine kFin_ok h3 h2 hs.sz (fun σ' w' h2 h3 => ?_)
    have := kRet_ok (k := fun vs => KeepP σ.live w w' ∧ ∃ σ', Sat σ' w' ∧ Fol σ σ' ∧ k (tupV vs) σ') h2.sat (l := sf.res) (ρ := ρ') (ρa := ρ) ?_ (fun i hi => h1 i ((bits_mem _ _).2 (List.mem_cons_of_mem _ ((bits_mem _ _).1 hi))))
    · exact this
    · have mono : ∀ (l : List RV) (k k' : List Value → Prop), (∀ vs, k vs → k' vs) → kRet l ρ' σ' k → kRet l ρ' σ' k' := by
        intro l
        induction l with
        | nil => intro k k' hk h; exact hk _ h
        | cons x r ih =>
          intro k k' hk h
          cases x with
          | t i => exact ih _ _ (fun vs h => hk _ h) h
          | ld i => exact seqO_mono (fun v hv => ih _ _ (fun vs h => hk _ h) hv) h
          | ldN n i => exact seqO_mono (fun v hv => ih _ _ (fun vs h => hk _ h) hv) h
      exact mono _ _ _ (fun vs h => ⟨h2.keep, σ', h2.sat, h2.fol, h⟩) h3
  cases e with
  | normal => exact key h1 h3
  | ret => exact key h1 h3
  | exit i => exact h3.elim
  | goto i => exact h3.elim
  | panic i => exact h3.elim
  | outgrown => exact h3.elim
theorem denF_okD {hints : Hints} {f : FuncId} {sf : SF} {args : List Value} {k : AS → Prop} (hf : trF P hints f = some sf) (ha : args.length = sf.k) (hn : (wrS sf.body).contains sf.n = false) (h : denF P sf args σ fun _ s => k s) : kDfr P f args σ k := by
  intro w hs
  refine fnD_ok hf ha hn ?_
  have hwf : wfS P sf.body := by
    simp only [trF, Option.bind_eq_some_iff] at hf
    obtain ⟨fn, hfn, c, hc, rs, hrs, hf⟩ := hf
    split at hf
    · injection hf with hf; subst hf; exact trS_wf c
    · cases hf
  refine vcS_mono ?_ (den_ok sf.body hwf (σ0 := σ) (w0 := w) hs.sz h (ρa := ini args) (fun _ _ => rfl) ⟨hs, KeepP.refl _ _, Fol.refl _⟩)
  rintro e ρ w' ⟨ρ', σ', h1, h2, h3⟩
  have key : Agr (bits (sf.n :: rvR sf.res)) ρ' ρ → kFin P (valsOf (ρ' sf.n)) σ' (fun σ' => kRet sf.res ρ' σ' (fun vs => k σ')) → finP P (valsOf (ρ sf.n)) w' fun w' => resP sf.res ρ w' fun vs => KeepP σ.live w w' ∧ ∃ σ', Sat σ' w' ∧ Fol σ σ' ∧ k σ' := by
    intro h1 h3
    have hN : ρ' sf.n = ρ sf.n := h1 _ ((bits_mem _ _).2 (by simp))
    rw [hN] at h3
    refine kFin_ok h3 h2 hs.sz (fun σ' w' h2 h3 => ?_)
    have := kRet_ok (k := fun vs => KeepP σ.live w w' ∧ ∃ σ', Sat σ' w' ∧ Fol σ σ' ∧ k σ') h2.sat (l := sf.res) (ρ := ρ') (ρa := ρ) ?_ (fun i hi => h1 i ((bits_mem _ _).2 (List.mem_cons_of_mem _ ((bits_mem _ _).1 hi))))
    · exact this
    · have mono : ∀ (l : List RV) (k k' : List Value → Prop), (∀ vs, k vs → k' vs) → kRet l ρ' σ' k → kRet l ρ' σ' k' := by
        intro l
        induction l with
        | nil => intro k k' hk h; exact hk _ h
        | cons x r ih =>
          intro k k' hk h
          cases x with
          | t i => exact ih _ _ (fun vs h => hk _ h) h
          | ld i => exact seqO_mono (fun v hv => ih _ _ (fun vs h => hk _ h) hv) h
          | ldN n i => exact seqO_mono (fun v hv => ih _ _ (fun vs h => hk _ h) hv) h
      exact mono _ _ _ (fun vs h => ⟨h2.keep, σ', h2.sat, h2.fol, h⟩) h3
  cases e with
  | normal => exact key h1 h3
  | ret => exact key h1 h3
  | exit i => exact h3.elim
  | goto i => exact h3.elim
  | panic i => exact h3.elim
  | outgrown => exact h3.elim
end
end Go.Proofs.YtdlimikcgdgfpaaGreatDoor.E
namespace Go.Proofs.YtdlimikcgdgfpaaGreatDoor.E
open Go.RowKit
def denFn (P : Program) (hints : Hints) (f : Nat) (args : List Value) (s : AS) (k : Value → AS → Prop) : Prop :=
  match trF P hints f with
  | some sf => if args.length = sf.k then denF P sf args s k else False
  | none => False
theorem denFn_ok {P : Program} (hints : Hints) {f : Nat} {args : List Value} {s : AS} {k : Value → AS → Prop} (h : denFn P hints f args s k) : kCall P f args s k := by
  unfold denFn at h
  split at h
  · rename_i sf hf
    split at h
    · rename_i ha; exact denF_ok hf ha h
    · exact h.elim
  · exact h.elim
theorem fn_by {P : Program} {hints : Hints} {f : Nat} {args : List Value} {s : AS} {k : Value → AS → Prop} {A : Prop} (e : denFn P hints f args s k = A) (h : A) : kCall P f args s k := denFn_ok hints (e.symm ▸ h)
def quietB (P : Program) (hints : Hints) (f : Nat) : Bool := match trF P hints f with
  | some sf => !(wrS sf.body).contains sf.n
  | none => false
theorem fnD_by {P : Program} {hints : Hints} {f : Nat} {args : List Value} {s : AS} {k : AS → Prop} {A : Prop} (hq : quietB P hints f = true) (e : denFn P hints f args s (fun _ s => k s) = A) (h : A) : kDfr P f args s k := by
  rw [← e] at h
  unfold denFn at h
  unfold quietB at hq
  split at h
  · rename_i sf hf
    rw [hf] at hq
    split at h
    · rename_i ha; exact denF_okD hf ha (by simpa using hq) h
    · exact h.elim
  · exact h.elim
theorem dfr_by {P : Program} {g : Nat} {a b : Array Value} {m : Value} {s : AS} {k : Value → AS → Prop} (h : k (consM (.func (.func g) a b) m) s) : kGen P .dfr [.func (.func g) a b, m] s k :=
  fun w hw => ⟨_, w, rfl, Out.same hw h⟩
def un1 (xs : List Value) (k : Value → Prop) (_ : Dm k := ()) : Prop := k (gv xs 0)
theorem un1_l (a0 : Value) (k : Value → Prop) : un1 [a0] k = k a0 := rfl
def un2 (xs : List Value) (k : Value → Value → Prop) (_ : Dm k := ()) : Prop := k (gv xs 0) (gv xs 1)
theorem un2_l (a0 a1 : Value) (k : Value → Value → Prop) : un2 [a0, a1] k = k a0 a1 := rfl
def un3 (xs : List Value) (k : Value → Value → Value → Prop) (_ : Dm k := ()) : Prop := k (gv xs 0) (gv xs 1) (gv xs 2)
theorem un3_l (a0 a1 a2 : Value) (k : Value → Value → Value → Prop) : un3 [a0, a1, a2] k = k a0 a1 a2 := rfl
def un4 (xs : List Value) (k : Value → Value → Value → Value → Prop) (_ : Dm k := ()) : Prop := k (gv xs 0) (gv xs 1) (gv xs 2) (gv xs 3)
theorem un4_l (a0 a1 a2 a3 : Value) (k : Value → Value → Value → Value → Prop) : un4 [a0, a1, a2, a3] k = k a0 a1 a2 a3 := rfl
def un5 (xs : List Value) (k : Value → Value → Value → Value → Value → Prop) (_ : Dm k := ()) : Prop := k (gv xs 0) (gv xs 1) (gv xs 2) (gv xs 3) (gv xs 4)
theorem un5_l (a0 a1 a2 a3 a4 : Value) (k : Value → Value → Value → Value → Value → Prop) : un5 [a0, a1, a2, a3, a4] k = k a0 a1 a2 a3 a4 := rfl
def un6 (xs : List Value) (k : Value → Value → Value → Value → Value → Value → Prop) (_ : Dm k := ()) : Prop := k (gv xs 0) (gv xs 1) (gv xs 2) (gv xs 3) (gv xs 4) (gv xs 5)
theorem un6_l (a0 a1 a2 a3 a4 a5 : Value) (k : Value → Value → Value → Value → Value → Value → Prop) : un6 [a0, a1, a2, a3, a4, a5] k = k a0 a1 a2 a3 a4 a5 := rfl
def un7 (xs : List Value) (k : Value → Value → Value → Value → Value → Value → Value → Prop) (_ : Dm k := ()) : Prop := k (gv xs 0) (gv xs 1) (gv xs 2) (gv xs 3) (gv xs 4) (gv xs 5) (gv xs 6)
theorem un7_l (a0 a1 a2 a3 a4 a5 a6 : Value) (k : Value → Value → Value → Value → Value → Value → Value → Prop) : un7 [a0, a1, a2, a3, a4, a5, a6] k = k a0 a1 a2 a3 a4 a5 a6 := rfl
def un8 (xs : List Value) (k : Value → Value → Value → Value → Value → Value → Value → Value → Prop) (_ : Dm k := ()) : Prop := k (gv xs 0) (gv xs 1) (gv xs 2) (gv xs 3) (gv xs 4) (gv xs 5) (gv xs 6) (gv xs 7)
theorem un8_l (a0 a1 a2 a3 a4 a5 a6 a7 : Value) (k : Value → Value → Value → Value → Value → Value → Value → Value → Prop) : un8 [a0, a1, a2, a3, a4, a5, a6, a7] k = k a0 a1 a2 a3 a4 a5 a6 a7 := rfl
def un9 (xs : List Value) (k : Value → Value → Value → Value → Value → Value → Value → Value → Value → Prop) (_ : Dm k := ()) : Prop := k (gv xs 0) (gv xs 1) (gv xs 2) (gv xs 3) (gv xs 4) (gv xs 5) (gv xs 6) (gv xs 7) (gv xs 8)
theorem un9_l (a0 a1 a2 a3 a4 a5 a6 a7 a8 : Value) (k : Value → Value → Value → Value → Value → Value → Value → Value → Value → Prop) : un9 [a0, a1, a2, a3, a4, a5, a6, a7, a8] k = k a0 a1 a2 a3 a4 a5 a6 a7 a8 := rfl
def un10 (xs : List Value) (k : Value → Value → Value → Value → Value → Value → Value → Value → Value → Value → Prop) (_ : Dm k := ()) : Prop := k (gv xs 0) (gv xs 1) (gv xs 2) (gv xs 3) (gv xs 4) (gv xs 5) (gv xs 6) (gv xs 7) (gv xs 8) (gv xs 9)
theorem un10_l (a0 a1 a2 a3 a4 a5 a6 a7 a8 a9 : Value) (k : Value → Value → Value → Value → Value → Value → Value → Value → Value → Value → Prop) : un10 [a0, a1, a2, a3, a4, a5, a6, a7, a8, a9] k = k a0 a1 a2 a3 a4 a5 a6 a7 a8 a9 := rfl
def un11 (xs : List Value) (k : Value → Value → Value → Value → Value → Value → Value → Value → Value → Value → Value → Prop) (_ : Dm k := ()) : Prop := k (gv xs 0) (gv xs 1) (gv xs 2) (gv xs 3) (gv xs 4) (gv xs 5) (gv xs 6) (gv xs 7) (gv xs 8) (gv xs 9) (gv xs 10)
theorem un11_l (a0 a1 a2 a3 a4 a5 a6 a7 a8 a9 a10 : Value) (k : Value → Value → Value → Value → Value → Value → Value → Value → Value → Value → Value → Prop) : un11 [a0, a1, a2, a3, a4, a5, a6, a7, a8, a9, a10] k = k a0 a1 a2 a3 a4 a5 a6 a7 a8 a9 a10 := rfl
def un12 (xs : List Value) (k : Value → Value → Value → Value → Value → Value → Value → Value → Value → Value → Value → Value → Prop) (_ : Dm k := ()) : Prop := k (gv xs 0) (gv xs 1) (gv xs 2) (gv xs 3) (gv xs 4) (gv xs 5) (gv xs 6) (gv xs 7) (gv xs 8) (gv xs 9) (gv xs 10) (gv xs 11)
theorem un12_l (a0 a1 a2 a3 a4 a5 a6 a7 a8 a9 a10 a11 : Value) (k : Value → Value → Value → Value → Value → Value → Value → Value → Value → Value → Value → Value → Prop) : un12 [a0, a1, a2, a3, a4, a5, a6, a7, a8, a9, a10, a11] k = k a0 a1 a2 a3 a4 a5 a6 a7 a8 a9 a10 a11 := rfl
def un13 (xs : List Value) (k : Value → Value → Value → Value → Value → Value → Value → Value → Value → Value → Value → Value → Value → Prop) (_ : Dm k := ()) : Prop := k (gv xs 0) (gv xs 1) (gv xs 2) (gv xs 3) (gv xs 4) (gv xs 5) (gv xs 6) (gv xs 7) (gv xs 8) (gv xs 9) (gv xs 10) (gv xs 11) (gv xs 12)
theorem un13_l (a0 a1 a2 a3 a4 a5 a6 a7 a8 a9 a10 a11 a12 : Value) (k : Value → Value → Value → Value → Value → Value → Value → Value → Value → Value → Value → Value → Value → Prop) : un13 [a0, a1, a2, a3, a4, a5, a6, a7, a8, a9, a10, a11, a12] k = k a0 a1 a2 a3 a4 a5 a6 a7 a8 a9 a10 a11 a12 := rfl
def un14 (xs : List Value) (k : Value → Value → Value → Value → Value → Value → Value → Value → Value → Value → Value → Value → Value → Value → Prop) (_ : Dm k := ()) : Prop := k (gv xs 0) (gv xs 1) (gv xs 2) (gv xs 3) (gv xs 4) (gv xs 5) (gv xs 6) (gv xs 7) (gv xs 8) (gv xs 9) (gv xs 10) (gv xs 11) (gv xs 12) (gv xs 13)
theorem un14_l (a0 a1 a2 a3 a4 a5 a6 a7 a8 a9 a10 a11 a12 a13 : Value) (k : Value → Value → Value → Value → Value → Value → Value → Value → Value → Value → Value → Value → Value → Value → Prop) : un14 [a0, a1, a2, a3, a4, a5, a6, a7, a8, a9, a10, a11, a12, a13] k = k a0 a1 a2 a3 a4 a5 a6 a7 a8 a9 a10 a11 a12 a13 := rfl
def un15 (xs : List Value) (k : Value → Value → Value → Value → Value → Value → Value → Value → Value → Value → Value → Value → Value → Value → Value → Prop) (_ : Dm k := ()) : Prop := k (gv xs 0) (gv xs 1) (gv xs 2) (gv xs 3) (gv xs 4) (gv xs 5) (gv xs 6) (gv xs 7) (gv xs 8) (gv xs 9) (gv xs 10) (gv xs 11) (gv xs 12) (gv xs 13) (gv xs 14)
theorem un15_l (a0 a1 a2 a3 a4 a5 a6 a7 a8 a9 a10 a11 a12 a13 a14 : Value) (k : Value → Value → Value → Value → Value → Value → Value → Value → Value → Value → Value → Value → Value → Value → Value → Prop) : un15 [a0, a1, a2, a3, a4, a5, a6, a7, a8, a9, a10, a11, a12, a13, a14] k = k a0 a1 a2 a3 a4 a5 a6 a7 a8 a9 a10 a11 a12 a13 a14 := rfl
def un16 (xs : List Value) (k : Value → Value → Value → Value → Value → Value → Value → Value → Value → Value → Value → Value → Value → Value → Value → Value → Prop) (_ : Dm k := ()) : Prop := k (gv xs 0) (gv xs 1) (gv xs 2) (gv xs 3) (gv xs 4) (gv xs 5) (gv xs 6) (gv xs 7) (gv xs 8) (gv xs 9) (gv xs 10) (gv xs 11) (gv xs 12) (gv xs 13) (gv xs 14) (gv xs 15)
theorem un16_l (a0 a1 a2 a3 a4 a5 a6 a7 a8 a9 a10 a11 a12 a13 a14 a15 : Value) (k : Value → Value → Value → Value → Value → Value → Value → Value → Value → Value → Value → Value → Value → Value → Value → Value → Prop) : un16 [a0, a1, a2, a3, a4, a5, a6, a7, a8, a9, a10, a11, a12, a13, a14, a15] k = k a0 a1 a2 a3 a4 a5 a6 a7 a8 a9 a10 a11 a12 a13 a14 a15 := rfl
end Go.Proofs.YtdlimikcgdgfpaaGreatDoor.E
