/- Resolved instructions, their translation out of the model's operations, what each asks, and that this is sound. Conditions: none. -/
import Derived.Test.YtmgdkoidgoihfaaGreatDoorE1
import Derived.RangeFuncRecord
import Derived.RangeFuncCalls
import Derived.OrdersIn
import Derived.TacticsIn
namespace Go.Proofs.YtmgdkoidgoihfaaGreatDoor.E
open Go.RowKit

/-- Operations that are taken as the model has them. -/
inductive LK where
  | lk (t : TypeId) (ok : Bool) | mup (t : TypeId) | mkm (t : TypeId) | rng (t : TypeId) | nxt (s : Bool) (ty : TypeId)
  | blt (b : Builtin) (ts : List TypeId) (ty : TypeId)
  | ent | mki (t : TypeId) | tas (t u : TypeId) (ok : Bool) | men (t : TypeId) | est (t : TypeId)
  | cv (s d : TypeId) | bop (op : BinOp) (t : TypeId) (x y : Operand) | ext (f : FuncId) | dfr
/-- A mark, or a call that is put off, laid ahead of the others. -/
def consM (m v : Value) : Value := match v with | .tuple vs => .tuple (m :: vs.toList).toArray | _ => .tuple [m].toArray
def bltSem (b : Builtin) (ts : List TypeId) (ty : TypeId) (vs : List Value) : Sem Value :=
  match b with
  | .len => Builtin.len_ ts.toArray ty vs.toArray
  | .cap => Builtin.cap_ ts.toArray ty vs.toArray
  | .delete => Builtin.delete_ ts.toArray ty vs.toArray
  | .clear => Builtin.clear_ ts.toArray ty vs.toArray
  | .unsafeString => Builtin.unsafeString_ ts.toArray ty vs.toArray
  | .unsafeSliceData => Builtin.unsafeSliceData_ ts.toArray ty vs.toArray
  | .unsafeStringData => Builtin.unsafeStringData_ ts.toArray ty vs.toArray
  | .min => Builtin.min_ ts.toArray ty vs.toArray
  | .max => Builtin.max_ ts.toArray ty vs.toArray
  | _ => stuck ""
def lkSem : LK → List Value → Sem Value
  | .lk t ok, [x, i] => Instr.lookup t x i ok
  | .mup t, [m, k, v] => do Instr.mapUpdate t m k v; pure undef
  | .mkm t, [r] => Instr.makeMap t (some r)
  | .rng t, [x] => Instr.range t x
  | .nxt s ty, [x] => Instr.next x s ty
  | .ent, [x] => Instr.entry x
  | .mki t, [x] => Instr.makeInterface t x
  | .tas t u ok, [x] => Instr.typeAssert x t u ok
  | .men t, [m, k] => Instr.mapEntry t m k
  | .est t, [m, k, v] => do Instr.entryStore t m k v; pure undef
  | .blt b ts ty, vs => bltSem b ts ty vs
  | .cv s d, [x] => convert s d x
  | .bop op t x y, [a, b] => do eqGuard op t x y a b; binOp op t a b
  | .ext f, vs => do
    match ← callFunc f vs.toArray with
    | .value v => pure v
    | _ => stuck ""
  | .dfr, [.func (.func f) a b, m] => pure (consM (.func (.func f) a b) m)
  | _, _ => stuck ""

inductive Ins where
  | mov (x : Arg) | pick (c a b : Arg)
  | bin (op : BinOp) (x y : Arg) | sft (op : BinOp) (x y : Arg)
  | eq (kd : Nat) (neg : Bool) (x y : Arg) | eqi (neg : Bool) (x y : Arg)
  | un (op : UnOp) (x : Arg)
  | load (x : Arg) | loadN (n : Nat) (x : Arg) | store (n : Nat) (x y : Arg)
  | alloc (t : TypeId) (z : List Value) | box (t : TypeId) (x : Arg)
  | build (z : List Value) (ps : List (Nat × Nat × Arg))
  | bsl (e : TypeId) (n : Nat) (z : List Value) (ps : List (Nat × Nat × Arg))
  | nck (x : Arg) | fld (off : Nat) (x : Arg) | get1 (off : Nat) (x : Arg) | getN (off n : Nat) (x : Arg)
  | idx (sz : Nat) (x i : Arg) | idxA (len sz : Nat) (x i : Arg) | ixS (x i : Arg)
  | subS (x : Arg) (lo hi : Option Arg) | subL (sz : Nat) (x : Arg) (lo hi : Option Arg) | subA (len sz : Nat) (x : Arg) (lo hi : Option Arg)
  | cvi (k : IntKind) (x : Arg) | cvBS (x : Arg) | cvSS (x : Arg)
  | mkf (f : Nat) (first cap : List Arg)
  | mks (e : TypeId) (sz bytes : Nat) (z : List Value) (l c : Arg)
  | mkm
  | ext (i : Nat) (x : Arg) | len (s : Bool) (x : Arg)
  | min2 (x y : Arg) | max2 (x y : Arg)
  | call (f : Nat) (args : List Arg) | callv (x : Arg) (args : List Arg)
  | app (t u : TypeId) (x y : Arg)
  | cpy (t u : TypeId) (x y : Arg)
  | chk (x : Arg) (d : Nat) | chkN (n : Nat) (x : Arg) (d : Nat)
  | gen (kd : LK) (xs : List Arg)
  | bad

def A1 (x : Option Arg) (f : Arg → Ins) : Ins := x.elim .bad f
def allA (N : Nat) : List Operand → Option (List Arg)
  | [] => some []
  | x :: r => (trA N x).bind fun a => (allA N r).map (a :: ·)
def optA (N : Nat) : Option Operand → Option (Option Arg)
  | none => some none
  | some x => (trA N x).map some

def isAggB : TypeDesc → Bool | .struct _ | .array _ _ => true | _ => false
def szOf (P : Program) (t : TypeId) : Option Nat := (P.info? t).map (·.size)
def zOf (P : Program) (t : TypeId) : Option (List Value) := (P.info? t).bind fun i => i.zero.map fun z => z.cells.toList
def okFn (P : Program) (f : Nat) : Bool := match P.funcs[f]? with | some fn => fn.body.isSome && !(fn.name == "runtime.NumGoroutine") | none => false

def plA (P : Program) (N : Nat) (place : Nat → Option (Nat × Nat)) : List (Nat × Operand) → Option (List (Nat × Nat × Arg))
  | [] => some []
  | (i, x) :: r => (trA N x).bind fun a => (place i).bind fun p => (plA P N place r).map ((p.1, p.2, a) :: ·)

def trLoad (P : Program) (t : TypeId) (x : Arg) : Ins :=
  match P.underlying t with
  | some d => if isAggB d then (match szOf P t with | some n => .loadN n x | none => .bad) else .load x
  | none => .bad
def trEq (P : Program) (neg : Bool) (t : TypeId) (cst : Bool) (x y : Arg) : Ins :=
  match P.underlying t with
  | some (.pointer _) => .eq 0 neg x y
  | some (.slice _) => .eq 1 neg x y
  | some (.map _ _) => .eq 2 neg x y
  | some (.func _ _ _) => .eq 3 neg x y
  | some .bool => .eq 4 neg x y
  | some (.interface _) => if cst then .eqi neg x y else .bad
  | some (.int _) | some .string => .bin (if neg then .neq else .eql) x y
  | _ => .bad
def isC : Operand → Bool | .const _ => true | _ => false
def fOf (P : Program) (s : TypeId) (f : Nat) : Option Field :=
  match P.underlying s with
  | some (.struct fs) => fs[f]?
  | _ => none
def trBin (P : Program) (op : BinOp) (t : TypeId) (cst : Bool) (x y : Arg) : Ins :=
  match op with
  | .eql => trEq P false t cst x y
  | .neq => trEq P true t cst x y
  | .shl | .shr => .sft op x y
  | _ => .bin op x y
def trBlt (N : Nat) (c : Call) (ty : TypeId) : Ins :=
  match c.callee with
  | .builtin b => (allA N c.args.toList).elim .bad fun as => match b with | .len | .cap | .delete | .clear | .unsafeString | .unsafeSliceData | .unsafeStringData | .min | .max => .gen (.blt b c.argTypes.toList ty) as | _ => .bad
  | _ => .bad
def trCall (P : Program) (N : Nat) (c : Call) : Ins :=
  match c.callee with
  | .value f => A1 (trA N f) fun fa => (allA N c.args.toList).elim .bad fun as =>
      match f with
      | .func g => if okFn P g then .call g as else .gen (.ext g) as
      | _ => .callv fa as
  | .builtin .len =>
    match c.args.toList, c.argTypes.toList with
    | [x], [t] => A1 (trA N x) fun a => match P.underlying t with | some .string => .len true a | some (.slice _) => .len false a | _ => .bad
    | _, _ => .bad
  | .builtin .min => match c.args.toList with | [x, y] => A1 (trA N x) fun a => A1 (trA N y) fun b => .min2 a b | _ => .bad
  | .builtin .max => match c.args.toList with | [x, y] => A1 (trA N x) fun a => A1 (trA N y) fun b => .max2 a b | _ => .bad
  | .builtin .append => match c.args.toList, c.argTypes.toList with | [x, y], [t, u] => A1 (trA N x) fun a => A1 (trA N y) fun b => .app t u a b | _, _ => .bad
  | .builtin .copy => match c.args.toList, c.argTypes.toList with | [x, y], [t, u] => A1 (trA N x) fun a => A1 (trA N y) fun b => .cpy t u a b | _, _ => .bad
  | _ => .bad
def trSlice (P : Program) (t : TypeId) (x : Arg) (lo hi : Option Arg) : Ins :=
  match P.underlying t with
  | some .string => .subS x lo hi
  | some (.slice e) => (match szOf P e with | some n => .subL n x lo hi | none => .bad)
  | some (.array len e) => (match szOf P e with | some n => .subA len n x lo hi | none => .bad)
  | _ => .bad
def trConv (P : Program) (s d : TypeId) (x : Arg) : Ins :=
  match P.underlying s, P.underlying d with
  | some (.int _), some (.int k) => .cvi k x
  | some .string, some .string => .cvSS x
  | some (.slice e), some .string => (match P.underlying e with | some (.int .u8) => .cvBS x | _ => .bad)
  | _, _ => .bad
/-- Is it told at once whether two values of a type are the same? -/
def genEq (P : Program) (op : BinOp) (t : TypeId) (cst : Bool) : Bool :=
  match op with
  | .eql | .neq => (match P.underlying t with | some (.pointer _) => !cst | some (.struct _) | some (.array _ _) => true | some (.interface _) => !cst | _ => false)
  | _ => false
def orGen (i g : Ins) : Ins := match i with | .bad => g | i => i
def trI (P : Program) (N : Nat) (o : Oper) : Ins :=
  match o.op with
  | .move x | .assign x => A1 (trA N x) .mov
  | .pick c a b => A1 (trA N c) fun c => A1 (trA N a) fun a => A1 (trA N b) fun b => .pick c a b
  | .alloc t => (zOf P t).elim .bad fun z => .alloc t z
  | .box t x => A1 (trA N x) fun a => .box t a
  | .load t x => A1 (trA N x) fun a => trLoad P t a
  | .store t x y => A1 (trA N x) fun a => A1 (trA N y) fun b => (szOf P t).elim .bad fun n => .store n a b
  | .nilCheck x => A1 (trA N x) .nck
  | .binOp op t x y _ => A1 (trA N x) fun a => A1 (trA N y) fun b => if genEq P op t (isC x || isC y) then .gen (.bop op t x y) [a, b] else trBin P op t (isC x || isC y) a b
  | .unOp op _ x => A1 (trA N x) fun a => .un op a
  | .fieldAddr s x f => A1 (trA N x) fun a => (fOf P s f).elim .bad fun fd => match szOf P fd.type with | some (_ + 1) => .fld fd.offset a | _ => .bad
  | .field s x f => A1 (trA N x) fun a => (fOf P s f).elim .bad fun fd =>
      match P.underlying fd.type with
      | some d => if isAggB d then (match szOf P fd.type with | some n => .getN fd.offset n a | none => .bad) else .get1 fd.offset a
      | none => .bad
  | .indexAddr t x i => A1 (trA N x) fun a => A1 (trA N i) fun b =>
      match P.underlying t with
      | some (.slice e) => (match szOf P e with | some n => .idx n a b | none => .bad)
      | some (.array len e) => (match szOf P e with | some n => .idxA len n a b | none => .bad)
      | _ => .bad
  | .index t x i => A1 (trA N x) fun a => A1 (trA N i) fun b => match P.underlying t with | some .string => .ixS a b | _ => .bad
  | .slice t x lo hi mx => A1 (trA N x) fun a => (optA N lo).elim .bad fun l => (optA N hi).elim .bad fun h => match mx with | none => trSlice P t a l h | some _ => .bad
  | .convert s d x => A1 (trA N x) fun a => orGen (trConv P s d a) (.gen (.cv s d) [a])
  | .makeFunc fn first cap => match fn with | .func f => (allA N first.toList).elim .bad fun a => (allA N cap.toList).elim .bad fun b => .mkf f a b | _ => .bad
  | .makeMap _ none => .mkm
  | .makeSlice t l c => A1 (trA N l) fun a => A1 (trA N c) fun b =>
      match P.underlying t with
      | some (.slice e) => (match P.info? e with | some i => (match i.zero with | some z => .mks e i.size i.bytes z.cells.toList a b | none => .bad) | none => .bad)
      | _ => .bad
  | .build t ps =>
      match P.underlying t with
      | some (.struct fs) => (zOf P t).elim .bad fun z => (plA P N (fun i => fs[i]?.bind fun f => (szOf P f.type).map fun n => (f.offset, n)) ps.toList).elim .bad fun l => if fs.all fun f => (szOf P f.type).isSome then .build z l else .bad
      | some (.array _ e) => (zOf P t).elim .bad fun z => (szOf P e).elim .bad fun n => (plA P N (fun i => some (i * n, n)) ps.toList).elim .bad fun l => .build z l
      | _ => .bad
  | .buildSlice t len ps =>
      match P.underlying t with
      | some (.slice e) => (zOf P e).elim .bad fun z => (szOf P e).elim .bad fun n => (plA P N (fun i => some (i * n, n)) ps.toList).elim .bad fun l => if z.length = n ∧ 0 < n ∧ len * n ≤ 16777216 then .bsl e len ((List.replicate len z).flatten) l else .bad
      | _ => .bad
  | .extract x i => A1 (trA N x) fun a => .ext i a
  | .call c => orGen (trCall P N c) (trBlt N c o.type)
  | .lookup t x i ok => A1 (trA N x) fun a => A1 (trA N i) fun b => .gen (.lk t ok) [a, b]
  | .mapUpdate t m k x => A1 (trA N m) fun a => A1 (trA N k) fun b => A1 (trA N x) fun c => .gen (.mup t) [a, b, c]
  | .insert t m k x => A1 (trA N m) fun a => A1 (trA N k) fun b => A1 (trA N x) fun c => .gen (.mup t) [a, b, c]
  | .makeMap t (some r) => A1 (trA N r) fun a => .gen (.mkm t) [a]
  | .range t x => A1 (trA N x) fun a => .gen (.rng t) [a]
  | .next x s => A1 (trA N x) fun a => .gen (.nxt s o.type) [a]
  | .entry x => A1 (trA N x) fun a => .gen .ent [a]
  | .makeInterface t x => A1 (trA N x) fun a => .gen (.mki t) [a]
  | .typeAssert x t u ok => A1 (trA N x) fun a => .gen (.tas t u ok) [a]
  | .mapEntry t m k => A1 (trA N m) fun a => A1 (trA N k) fun b => .gen (.men t) [a, b]
  | .entryStore t m k v => A1 (trA N m) fun a => A1 (trA N k) fun b => A1 (trA N v) fun c => .gen (.est t) [a, b, c]
  | _ => .bad

/-! ### What each asks -/
def ldV (w : World) : Value → Option Value
  | .pointer (some a) => w.cell? a
  | _ => none
def ldsV (w : World) (a : Addr) : Nat → Nat → Option (List Value)
  | _, 0 => some []
  | i, n + 1 => (w.cell? (a.add i)).bind fun v => (ldsV w a (i + 1) n).map (v :: ·)
def ldNV (w : World) (n : Nat) : Value → Option Value
  | .pointer (some a) => (ldsV w a 0 n).map fun l => .agg l.toArray
  | _ => none
/-- A store of all cells of a value. -/
def stV (w : World) (n : Nat) : Value → Value → Option World
  | .pointer (some a), v =>
    (blk w a.block).bind fun l =>
      if a.spot = none ∧ (cellsV v).length = n ∧ a.off + n ≤ l.length ∧ (cellsV v).all okCell then some (put w a.block (l.take a.off ++ cellsV v ++ l.drop (a.off + n))) else none
  | _, _ => none
def layA (ρ : Env) (ps : List (Nat × Nat × Arg)) : List (Nat × Nat × Value) := ps.map fun p => (p.1, p.2.1, p.2.2.ev ρ)
def argsV (ρ : Env) (l : List Arg) : List Value := l.map (Arg.ev ρ)
/-- A call that hands back a value. -/
def callP (P : Program) (f : Nat) (args : List Value) (w : World) (k : Value → World → Prop) : Prop :=
  Calls P f args.toArray w fun e w' => ∃ v, e = .returned v ∧ k v w'
/-- A call of yield: a round of the loop whose record lies in block l. -/
def yldP (P : Program) (l : Nat) (args : List Value) (w : World) (k : Value → World → Prop) : Prop :=
  ∃ f tmps assign body, (Instr.yield l args.toArray).run P w = .ok (.round l f tmps assign body) w ∧ RoundIn Fence.wide 0 P l f tmps assign body w fun e w' => ∃ v, e = .returned v ∧ k v w'
def callvP (P : Program) (f : Value) (args : List Value) (w : World) (k : Value → World → Prop) : Prop :=
  match f with
  | .func (.func g) first cap => okFn P g = true ∧ callP P g (first.toList ++ args ++ cap.toList) w k
  | .func (.yield l) first cap => first = #[] ∧ cap = #[] ∧ yldP P l args w k
  | _ => False
/-- 'append' of what two values hold. -/
def appP (P : Program) (t u : TypeId) (x y : Value) (w : World) (k : Value → World → Prop) : Prop := ∃ v w', (Builtin.append_ #[t, u] 0 #[x, y]).run P w = .ok v w' ∧ k v w'
def cpyP (P : Program) (t u : TypeId) (x y : Value) (w : World) (k : Value → World → Prop) : Prop := ∃ v w', (Builtin.copy_ #[t, u] 0 #[x, y]).run P w = .ok v w' ∧ k v w'
def genP (P : Program) (kd : LK) (vs : List Value) (w : World) (k : Value → World → Prop) : Prop := ∃ v w', (lkSem kd vs).run P w = .ok v w' ∧ k v w'
/-- 'make' of a slice. -/
def mksP (e : TypeId) (sz bytes : Nat) (z : List Value) (l c : Value) (w : World) (k : Value → World → Prop) : Prop :=
  match l, c with
  | .int _ a, .int _ b => 0 ≤ a ∧ a ≤ b ∧ b ≤ 9223372036854775807 ∧ bytes * b ≤ 281474976710656 ∧ z.length = sz ∧ 0 < sz ∧ k (.slice (some ⟨size w, 0, none⟩) a.toNat b.toNat) (new w ((List.replicate b.toNat z).flatten) e)
  | _, _ => False
def cvBSP (w : World) (x : Value) (k : Value → Prop) : Prop :=
  match x with
  | .slice none _ _ => k (.string (bs []))
  | .slice (some a) n _ => ∃ l : List UInt8, l.length = n ∧ ldsV w a 0 n = some (l.map fun b => .int .u8 b.toNat) ∧ k (.string (bs l))
  | _ => False

def vcI (P : Program) (i : Ins) (ρ : Env) (w : World) (k : Value → World → Prop) : Prop :=
  match i with
  | .mov x => k (x.ev ρ) w
  | .pick c a b => seqO (asB (c.ev ρ)) fun t => k (if t then a.ev ρ else b.ev ρ) w
  | .bin op x y => seqO (binV op (x.ev ρ) (y.ev ρ)) fun v => k v w
  | .sft op x y => seqO (sftV op (x.ev ρ) (y.ev ρ)) fun v => k v w
  | .eq kd neg x y => seqO (eqV kd (x.ev ρ) (y.ev ρ)) fun b => k (.bool (b != neg)) w
  | .eqi neg x y => seqO (eqI (x.ev ρ) (y.ev ρ)) fun b => k (.bool (b != neg)) w
  | .un op x => seqO (unV op (x.ev ρ)) fun v => k v w
  | .load x => seqO (ldV w (x.ev ρ)) fun v => k v w
  | .loadN n x => seqO (ldNV w n (x.ev ρ)) fun v => k v w
  | .store n x y => seqO (stV w n (x.ev ρ) (y.ev ρ)) fun w' => k undef w'
  | .alloc t z => k (.pointer (some ⟨size w, 0, none⟩)) (new w z t)
  | .box t x => k (.pointer (some ⟨size w, 0, none⟩)) (new w (cellsV (x.ev ρ)) t)
  | .build z ps => seqO (lay z (layA ρ ps)) fun l => k (.agg l.toArray) w
  | .bsl e n z ps => seqO (lay z (layA ρ ps)) fun l => k (.slice (some ⟨size w, 0, none⟩) n n) (new w l e)
  | .nck x => seqO (nckV (x.ev ρ)) fun v => k v w
  | .fld off x => seqO (fldV off (x.ev ρ)) fun v => k v w
  | .get1 off x => seqO (get1V off (x.ev ρ)) fun v => k v w
  | .getN off n x => seqO (getNV off n (x.ev ρ)) fun v => k v w
  | .idx sz x i => seqO (idxV sz (x.ev ρ) (i.ev ρ)) fun v => k v w
  | .idxA len sz x i => seqO (idxAV len sz (x.ev ρ) (i.ev ρ)) fun v => k v w
  | .ixS x i => seqO (ixSV (x.ev ρ) (i.ev ρ)) fun v => k v w
  | .subS x lo hi => seqO (subSV (x.ev ρ) (lo.map (Arg.ev ρ)) (hi.map (Arg.ev ρ))) fun v => k v w
  | .subL sz x lo hi => seqO (subLV sz (x.ev ρ) (lo.map (Arg.ev ρ)) (hi.map (Arg.ev ρ))) fun v => k v w
  | .subA len sz x lo hi => seqO (subAV len sz (x.ev ρ) (lo.map (Arg.ev ρ)) (hi.map (Arg.ev ρ))) fun v => k v w
  | .cvi kd x => seqO (cviV kd (x.ev ρ)) fun v => k v w
  | .cvBS x => cvBSP w (x.ev ρ) fun v => k v w
  | .cvSS x => seqO (cssV (x.ev ρ)) fun v => k v w
  | .mkf f a b => k (.func (.func f) (argsV ρ a).toArray (argsV ρ b).toArray) w
  | .mks e sz bytes z l c => mksP e sz bytes z (l.ev ρ) (c.ev ρ) w k
  | .mkm => k (.map (some (size w))) (w.alloc (.map #[] 0))
  | .ext i x => seqO (extV i (x.ev ρ)) fun v => k v w
  | .len s x => seqO (lenV s (x.ev ρ)) fun v => k v w
  | .min2 x y => seqO (min2V (x.ev ρ) (y.ev ρ)) fun v => k v w
  | .max2 x y => seqO (max2V (x.ev ρ) (y.ev ρ)) fun v => k v w
  | .call f as => callP P f (argsV ρ as) w k
  | .callv x as => callvP P (x.ev ρ) (argsV ρ as) w k
  | .app t u x y => appP P t u (x.ev ρ) (y.ev ρ) w k
  | .cpy t u x y => cpyP P t u (x.ev ρ) (y.ev ρ) w k
  | .chk x d => ldV w (x.ev ρ) = some (ρ d) ∧ k undef w
  | .chkN n x d => ldNV w n (x.ev ρ) = some (ρ d) ∧ k undef w
  | .gen kd xs => genP P kd (argsV ρ xs) w k
  | .bad => False

/-- What is asked of an operation's run. -/
def Goes (P : Program) (w : World) (k : Value → World → Prop) : Result Next → Prop
  | .ok (.value v) w' => k v w'
  | .ok .skip w' => k undef w'
  | .ok (.enter f args) w' => w' = w ∧ Calls P f args w fun e w'' => ∃ v, e = .returned v ∧ k v w''
  | .ok (.round l f tmps assign body) w' => w' = w ∧ RoundIn Fence.wide 0 P l f tmps assign body w fun e w'' => ∃ v, e = .returned v ∧ k v w''
  | _ => False
/-- The fence of all functions, in a round or in none. -/
def fz (ro : Option Nat) : Fence := { Fence.wide with round := ro }
theorem fz_depth {ro : Option Nat} {n : Nat} (h : (fz ro).depth.isSome = true) : 1 ≤ n := by
  have h' : false = true := h
  cases h'
theorem fz_calls {P : Program} {ro : Option Nat} {n : Nat} {f : FuncId} {args : Array Value} {w : World} {R : Ending → World → Prop} (h : Calls P f args w R) : CallsIn (fz ro) n P f args w R := by
  have h1 : CallsIn Fence.wide n P f args w R := callsIn_wide.2 h
  cases ro with
  | none => exact h1
  | some l => exact h1.inRound l
theorem fz_round {P : Program} {ro : Option Nat} {n l : Nat} {f : FuncId} {tmps : Array Value} {assign body : Code} {w : World} {R : Ending → World → Prop} (h : RoundIn Fence.wide 0 P l f tmps assign body w R) : RoundIn (fz ro) n P l f tmps assign body w R :=
  ⟨trivial, fun c cs _ => h.2 c cs (room_wide _)⟩
theorem Goes.wp {P : Program} {ro : Option Nat} {o : Oper} {a : Act} {w : World} {next : Act → World → Prop} {Q : Exit → Act → World → Prop} (hd : ∀ c, o.op ≠ .defer c)
    (h : Goes P w (fun v w' => next (a.put o.dst v) w') ((execOp a.eval o).run P w)) : o.wpIn (fz ro) 0 P a w next Q := by
  refine ⟨fun _ _ => trivial, ?_⟩
  have hs : Oper.semAt (fz ro).round a.eval o = execOp a.eval o := by
    cases ro with
    | none => rfl
    | some l => exact Oper.semAt_some l a.eval o hd
  rw [hs]
  generalize (execOp a.eval o).run P w = r at h ⊢
  cases r with
  | halt x w' => exact h.elim
  | ok n w' =>
    cases n with
    | value v => exact h
    | skip => exact h
    | enter f args =>
      obtain ⟨rfl, h⟩ := h
      refine ⟨fun h => by simp [fz, Fence.wide] at h, fz_calls (Calls.mono h ?_)⟩
      rintro e w'' ⟨v, rfl, hk⟩
      exact hk
    | round l f tmps assign body =>
      obtain ⟨rfl, h⟩ := h
      refine ⟨fun h => by simp [fz, Fence.wide] at h, fz_round (RoundIn.mono h ?_)⟩
      rintro e w'' ⟨v, rfl, hk⟩
      exact hk
    | _ => exact h.elim

theorem orGen_ok {P : Program} {i g : Ins} {ρ : Env} {w : World} {k : Value → World → Prop} (h : vcI P (orGen i g) ρ w k) : vcI P i ρ w k ∨ vcI P g ρ w k := by
  unfold orGen at h
  split at h
  · exact .inr h
  · exact .inl h
theorem A1_ok {P : Program} {x : Option Arg} {f : Arg → Ins} {ρ : Env} {w : World} {k : Value → World → Prop} (h : vcI P (A1 x f) ρ w k) : ∃ a, x = some a ∧ vcI P (f a) ρ w k := by
  cases x with
  | none => exact h.elim
  | some a => exact ⟨a, rfl, h⟩
theorem elim_ok {α : Type} {P : Program} {x : Option α} {f : α → Ins} {ρ : Env} {w : World} {k : Value → World → Prop} (h : vcI P (x.elim .bad f) ρ w k) : ∃ a, x = some a ∧ vcI P (f a) ρ w k := by
  cases x with
  | none => exact h.elim
  | some a => exact ⟨a, rfl, h⟩
theorem allA_ev {N : Nat} {ρ : Env} : ∀ {l : List Operand} {as : List Arg}, allA N l = some as → l.map (act N ρ).eval = argsV ρ as
  | [], as, h => by injection h with h; subst h; rfl
  | x :: r, as, h => by
    simp only [allA, Option.bind_eq_some_iff, Option.map_eq_some_iff] at h
    obtain ⟨a, ha, b, hb, rfl⟩ := h
    simp only [argsV, List.map_cons, trA_ev ha]
    congr 1
    exact allA_ev hb
theorem optA_ev {N : Nat} {ρ : Env} {x : Option Operand} {a : Option Arg} (h : optA N x = some a) : x.map (act N ρ).eval = a.map (Arg.ev ρ) := by
  cases x with
  | none => injection h with h; subst h; rfl
  | some x =>
    simp only [optA, Option.map_eq_some_iff] at h
    obtain ⟨b, hb, rfl⟩ := h
    simp [trA_ev hb]

section
variable {P : Program} {N : Nat} {ρ : Env} {w : World} {k : Value → World → Prop}
theorem szOf_run {t : TypeId} {n : Nat} (h : szOf P t = some n) (w : World) : (sizeOf t).run P w = .ok n w := by
  unfold szOf at h
  cases hq : P.info? t with
  | none => simp [hq] at h
  | some i =>
    have : i.size = n := by simpa [hq] using h
    simp [sizeOf, typeInfo, hq, this]
theorem isAgg_run {t : TypeId} {d : TypeDesc} (h : P.underlying t = some d) (w : World) : (isAgg t).run P w = .ok (isAggB d) w := by
  unfold isAgg
  rw [Sem.run_bind, run_underlying h w]
  cases d <;> rfl
theorem lds_run (a : Addr) : ∀ (n i : Nat) (l : List Value) (acc : Array Value), ldsV w a i n = some l → (loadCellsFrom a i n acc).run P w = .ok (acc ++ l.toArray) w
  | 0, i, l, acc, h => by injection h with h; subst h; simp [loadCellsFrom]
  | n + 1, i, l, acc, h => by
    simp only [ldsV, Option.bind_eq_some_iff, Option.map_eq_some_iff] at h
    obtain ⟨v, hv, r, hr, rfl⟩ := h
    have ih := lds_run a n (i + 1) r (acc.push v) hr
    simp only [loadCellsFrom, Sem.run_bind]
    have : (load (a.add i)).run P w = .ok v w := by simp [load, Sem.run, hv]
    rw [this]
    simp only [Result.andThen_ok, ih]
    simp
theorem okCell_eq (v : Value) : v.oneCell' = okCell v := by cases v <;> rfl
theorem cells_eq (v : Value) : v.cells.toList = cellsV v := by cases v <;> rfl
theorem addr_eta (a : Addr) (h : a.spot = none) : (⟨a.block, a.off, none⟩ : Addr) = a := by cases a; simp_all
theorem storeVar_ok {n : Nat} {t : TypeId} {a : Addr} {v : Value} {w' : World} (hs : szOf P t = some n) (h : stV w n (.pointer (some a)) v = some w') : (storeVar t a v).run P w = .ok () w' := by
  simp only [stV, Option.bind_eq_some_iff] at h
  obtain ⟨l, hl, h⟩ := h
  split at h
  · rename_i hc
    obtain ⟨h1, h2, h3, h4⟩ := hc
    injection h with h; subst h
    obtain ⟨ty, hty⟩ := blk_some hl
    have hst := run_storeCells_at P a.block a.off ty (cellsV v) 0 l.toArray w hty (by simp; omega) (by
      intro x hx
      rw [okCell_eq]
      exact List.all_eq_true.1 h4 x hx)
    rw [addr_eta a h1] at hst
    have hsz : v.cells.size = n := by rw [← Array.length_toList, cells_eq]; exact h2
    simp only [Nat.add_zero] at hst
    simp only [storeVar, Sem.run_bind, szOf_run hs w, Result.andThen_ok, hsz, ne_eq, not_true, if_false, cells_eq]
    rw [hst, put_row hl, h2]
  · cases h
end
end Go.Proofs.YtmgdkoidgoihfaaGreatDoor.E
