/- Resolved instructions: what each asks of the slots and the world, and that the model's operation does just that. Conditions: none. -/
import Derived.Test.YtmgdkoidgoihfaaGreatDoorE0
namespace Go.Proofs.YtmgdkoidgoihfaaGreatDoor.E
open Go.RowKit

/-! ### Pure values -/
def intV (op : BinOp) (k : IntKind) (a b : Int) : Option Value :=
  match op with
  | .add => some (.int k (k.wrap (a + b)))
  | .sub => some (.int k (k.wrap (a - b)))
  | .mul => some (.int k (k.wrap (a * b)))
  | .quo => if b = 0 then none else some (.int k (k.wrap (a.tdiv b)))
  | .rem => if b = 0 then none else some (.int k (a.tmod b))
  | .and => some (.int k (k.wrap (BitVec.ofInt k.bits a &&& BitVec.ofInt k.bits b).toNat))
  | .or => some (.int k (k.wrap (BitVec.ofInt k.bits a ||| BitVec.ofInt k.bits b).toNat))
  | .xor => some (.int k (k.wrap (BitVec.ofInt k.bits a ^^^ BitVec.ofInt k.bits b).toNat))
  | .andNot => some (.int k (k.wrap (BitVec.ofInt k.bits a &&& ~~~BitVec.ofInt k.bits b).toNat))
  | .eql => some (.bool (decide (a = b)))
  | .neq => some (.bool (decide (a ≠ b)))
  | .lss => some (.bool (decide (a < b)))
  | .leq => some (.bool (decide (a ≤ b)))
  | .gtr => some (.bool (decide (b < a)))
  | .geq => some (.bool (decide (b ≤ a)))
  | _ => none
def strV (op : BinOp) (a b : List UInt8) : Option Value :=
  match op with
  | .add => if a.length + b.length ≤ 9223372036854775807 then some (.string (bs (a ++ b))) else none
  | .eql => some (.bool (decide (a = b)))
  | .neq => some (.bool (decide (a ≠ b)))
  | .lss => some (.bool (Op.bytesLess a b))
  | .leq => some (.bool (Op.bytesLess a b || decide (a = b)))
  | .gtr => some (.bool (!(Op.bytesLess a b || decide (a = b))))
  | .geq => some (.bool (!Op.bytesLess a b))
  | _ => none
def shV (op : BinOp) (k : IntKind) (a b : Int) : Option Value :=
  if b < 0 then none else
  match op with
  | .shl => some (.int k (k.wrap (a * 2 ^ min b.toNat k.bits)))
  | .shr => some (.int k (a.fdiv (2 ^ min b.toNat k.bits)))
  | _ => none
def binV (op : BinOp) : Value → Value → Option Value
  | .int k a, .int k' b => if k = k' then intV op k a b else none
  | .string a, .string b => strV op a.data.toList b.data.toList
  | _, _ => none
def sftV (op : BinOp) : Value → Value → Option Value
  | .int k a, .int _ b => shV op k a b
  | _, _ => none
/-- x == y where y may be nil: of pointers, slices, maps, functions, interface values; of two pointers that are not nil: none. -/
def eqV : Nat → Value → Value → Option Bool
  | 0, .pointer none, .pointer b => some b.isNone
  | 0, .pointer (some _), .pointer none => some false
  | 1, .slice none _ _, .slice b _ _ => some b.isNone
  | 1, .slice (some _) _ _, .slice none _ _ => some false
  | 2, .map none, .map b => some b.isNone
  | 2, .map (some _), .map none => some false
  | 3, .nilFunc, .nilFunc => some true
  | 3, .nilFunc, .func _ _ _ => some false
  | 3, .func _ _ _, .nilFunc => some false
  | 4, .bool a, .bool b => some (a == b)
  | _, _, _ => none
/-- x == y of interface values, one of them the literal nil. -/
def eqI : Value → Value → Option Bool
  | .nilIface, .nilIface => some true
  | .nilIface, .iface _ _ => some false
  | .iface _ _, .nilIface => some false
  | _, _ => none
def unV (op : UnOp) (x : Value) : Option Value :=
  match op, x with
  | .neg, .int k n => some (.int k (k.wrap (0 - n)))
  | .xor, .int k n => some (.int k (k.wrap (BitVec.ofInt k.bits (if k.signed then -1 else k.max) ^^^ BitVec.ofInt k.bits n).toNat))
  | .not, .bool b => some (.bool !b)
  | _, _ => none
def asB : Value → Option Bool
  | .bool b => some b
  | _ => none
def nckV : Value → Option Value
  | .pointer (some a) => some (.pointer (some a))
  | .func (.func f) a b => some (.func (.func f) a b)
  | .iface t v => some (.iface t v)
  | _ => none
def fldV (off : Nat) : Value → Option Value
  | .pointer (some a) => some (.pointer (some (a.add off)))
  | _ => none
def get1V (off : Nat) : Value → Option Value
  | .agg cs => cs.toList[off]?
  | _ => none
def getNV (off n : Nat) : Value → Option Value
  | .agg cs => some (.agg ((cs.toList.drop off).take n).toArray)
  | _ => none
def idxV (sz : Nat) : Value → Value → Option Value
  | .slice (some a) n _, .int _ i => if 0 ≤ i ∧ i < n then some (.pointer (some (a.add (i.toNat * sz)))) else none
  | _, _ => none
def idxAV (len sz : Nat) : Value → Value → Option Value
  | .pointer (some a), .int _ i => if 0 ≤ i ∧ i < len then some (.pointer (some (a.add (i.toNat * sz)))) else none
  | _, _ => none
def strAt (l : List UInt8) (i : Int) : Option Value := if 0 ≤ i then (l[i.toNat]?).map fun b => .int .u8 b.toNat else none
def ixSV : Value → Value → Option Value
  | .string s, .int _ i => strAt s.data.toList i
  | _, _ => none
def bndV (d : Nat) : Option Value → Option Int
  | none => some (d : Int)
  | some (.int _ i) => some i
  | _ => none
def subV (l : List UInt8) (lo hi : Int) : Option Value :=
  if 0 ≤ lo ∧ lo ≤ hi ∧ hi ≤ l.length then some (.string (bs ((l.drop lo.toNat).take (hi.toNat - lo.toNat)))) else none
def subSV : Value → Option Value → Option Value → Option Value
  | .string s, lo, hi => (bndV 0 lo).bind fun a => (bndV s.size hi).bind fun b => subV s.data.toList a b
  | _, _, _ => none
def cutV (sz : Nat) (a : Option Addr) (c : Nat) (lo hi : Int) : Option Value :=
  if 0 ≤ lo ∧ lo ≤ hi ∧ hi ≤ c then some (.slice (if c = lo.toNat then a else a.map (·.add (lo.toNat * sz))) (hi.toNat - lo.toNat) (c - lo.toNat)) else none
def subLV (sz : Nat) : Value → Option Value → Option Value → Option Value
  | .slice a n c, lo, hi => (bndV 0 lo).bind fun x => (bndV n hi).bind fun y => cutV sz a c x y
  | _, _, _ => none
def subAV (len sz : Nat) : Value → Option Value → Option Value → Option Value
  | .pointer (some a), lo, hi => (bndV 0 lo).bind fun x => (bndV len hi).bind fun y => cutV sz (some a) len x y
  | _, _, _ => none
def cviV (k : IntKind) : Value → Option Value
  | .int _ n => some (.int k (k.wrap n))
  | _ => none
def cssV : Value → Option Value
  | .string s => some (.string s)
  | _ => none
def extV (i : Nat) : Value → Option Value
  | .tuple vs => vs.toList[i]?
  | _ => none
def lenV : Bool → Value → Option Value
  | true, .string s => some (.int .i64 s.size)
  | false, .slice _ n _ => some (.int .i64 n)
  | _, _ => none
def min2V : Value → Value → Option Value
  | .int k x, .int _ y => some (.int k (if y < x then y else x))
  | _, _ => none
def max2V : Value → Value → Option Value
  | .int k x, .int _ y => some (.int k (if x < y then y else x))
  | _, _ => none
def cellsV : Value → List Value
  | .agg cs => cs.toList
  | v => [v]
def okCell : Value → Bool
  | .agg _ | .tuple _ => false
  | _ => true
/-- Parts laid into cells. -/
def lay : List Value → List (Nat × Nat × Value) → Option (List Value)
  | l, [] => some l
  | l, (off, n, v) :: r => if (cellsV v).length = n ∧ off + n ≤ l.length then lay (l.take off ++ cellsV v ++ l.drop (off + n)) r else none
end Go.Proofs.YtmgdkoidgoihfaaGreatDoor.E
