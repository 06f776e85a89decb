/- The rules by which a walk goes on. Conditions: none. -/
import Derived.Test.YtdlimikcgdgfpaaGreatDoorY0
import Derived.Maps.AppendAt
import Derived.ChangeArms
import Derived.OpenShut
import Derived.ChangeShapes
import Derived.Lib.AppendStr
import Derived.Lib.UnsafeStr
import Derived.Lib.Builder
import Derived.Lib.Bytealg
import Derived.Maps.RangeRun
import Derived.MapKept
import Derived.Below
import Derived.Laws.StructEq
import Derived.ChangeKeysEq
import Derived.Laws.Build
import Derived.Lib.LaidTab
import Derived.Lib.OthersKept
import Derived.Laws.RangeAny
import Derived.Laws.Runes
import Derived.Lib.IndexBytes
set_option linter.unusedVariables false
set_option linter.unusedSimpArgs false
set_option maxHeartbeats 4000000
set_option maxRecDepth 100000
open Nat renaming reduceEqDiff → Q1, reduceAdd → Q2, reduceSub → Q3, reduceMul → Q4, reduceLT → Q5, reduceLeDiff → Q6, sub_zero → Q7
open Int renaming reduceNeg → Q8, reduceToNat → Q9
namespace Go.Proofs.YtdlimikcgdgfpaaGreatDoor.E
open Go.RowKit
section
variable {P : Program} {s σ : AS} {k : Value → Prop} {kk : Value → AS → Prop}
def seqA {α : Type} (o : Option α) (k : α → Prop) (_ : Dm k := ()) : Prop := seqO o k
theorem seqA_some {α : Type} (v : α) (k : α → Prop) : seqA (some v) k = k v := rfl
def kStop (J : List Value → AS → Prop) (B : (List Value → AS → Prop) → Prop) (_ : Dm J := ()) (_ : Dm B := ()) : Prop := B J
theorem w_stop (J : List Value → AS → Prop) (B : (List Value → AS → Prop) → Prop) : kJoin J B = kStop J B := id rfl
theorem w_join (J : List Value → AS → Prop) (B : (List Value → AS → Prop) → Prop) : kJoin J B = B J := id rfl
theorem w_bin (op : BinOp) (x y : Value) : kBin op x y k = seqA (binV op x y) k := rfl
theorem w_sft (op : BinOp) (x y : Value) : kSft op x y k = seqA (sftV op x y) k := rfl
theorem w_eq (kd : Nat) (neg : Bool) (x y : Value) : kEq kd neg x y k = seqA ((eqV kd x y).map fun b => .bool (b != neg)) k := by
  unfold kEq; cases eqV kd x y <;> rfl
theorem w_eqi (neg : Bool) (x y : Value) : kEqi neg x y k = seqA ((eqI x y).map fun b => .bool (b != neg)) k := by
  unfold kEqi; cases eqI x y <;> rfl
theorem w_un (op : UnOp) (x : Value) : kUn op x k = seqA (unV op x) k := rfl
theorem w_ld (x : Value) : kLd s x k = seqA (ldS s x) k := rfl
theorem w_ldN (n : Nat) (x : Value) : kLdN s n x k = seqA (ldNS s n x) k := rfl
theorem w_st (n : Nat) (x y : Value) (K : AS → Prop) : kSt s n x y K = seqA (stS s n x y) K := rfl
theorem w_build (z : List Value) (ps : List (Nat × Nat × Value)) : kBuild z ps k = seqA ((lay z ps).map fun l => .agg l.toArray) k := by
  unfold kBuild; cases lay z ps <;> rfl
theorem w_bsl (n : Nat) (z : List Value) (ps : List (Nat × Nat × Value)) : kBsl s n z ps kk = seqA (lay z ps) fun l => kk (.slice (some ⟨s.n, 0, none⟩) n n) (s.new (.cells l)) := rfl
theorem w_nck (x : Value) : kNck x k = seqA (nckV x) k := rfl
theorem w_fld (off : Nat) (x : Value) : kFld off x k = seqA (fldV off x) k := rfl
theorem w_get (off : Nat) (x : Value) : kGet off x k = seqA (get1V off x) k := rfl
theorem w_getN (off n : Nat) (x : Value) : kGetN off n x k = seqA (getNV off n x) k := rfl
theorem w_idx (sz : Nat) (x i : Value) : kIdx sz x i k = seqA (idxV sz x i) k := rfl
theorem w_idxA (len sz : Nat) (x i : Value) : kIdxA len sz x i k = seqA (idxAV len sz x i) k := rfl
theorem w_ixS (x i : Value) : kIxS x i k = seqA (ixSV x i) k := rfl
theorem w_subS (x : Value) (lo hi : Option Value) : kSubS x lo hi k = seqA (subSV x lo hi) k := rfl
theorem w_subL (sz : Nat) (x : Value) (lo hi : Option Value) : kSubL sz x lo hi k = seqA (subLV sz x lo hi) k := rfl
theorem w_subA (len sz : Nat) (x : Value) (lo hi : Option Value) : kSubA len sz x lo hi k = seqA (subAV len sz x lo hi) k := rfl
theorem w_cvi (kd : IntKind) (x : Value) : kCvi kd x k = seqA (cviV kd x) k := rfl
theorem w_cvSS (x : Value) : kCvSS x k = seqA (cssV x) k := rfl
theorem w_ext (i : Nat) (x : Value) : kExt i x k = seqA (extV i x) k := rfl
theorem w_len (b : Bool) (x : Value) : kLen b x k = seqA (lenV b x) k := rfl
theorem w_min (x y : Value) : kMin x y k = seqA (min2V x y) k := rfl
theorem w_max (x y : Value) : kMax x y k = seqA (max2V x y) k := rfl
theorem w_new (l : List Value) : kNew s l kk = kk (.pointer (some ⟨s.n, 0, none⟩)) (s.new (.cells l)) := rfl
theorem w_newT (t : TypeId) (l : List Value) : kNewT s t l kk = kk (.pointer (some ⟨s.n, 0, none⟩)) (s.new (.typed t l)) := rfl
theorem w_mkm : kMkm s kk = kk (.map (some s.n)) (s.new (.other (.map #[] 0))) := rfl
theorem w_pt (a b : Value) : kPick (.bool true) a b k = k a := rfl
theorem w_pf (a b : Value) : kPick (.bool false) a b k = k b := rfl
theorem w_ct (X Y : Prop) : kCond (.bool true) X Y = X := rfl
theorem w_cf (X Y : Prop) : kCond (.bool false) X Y = Y := rfl
theorem w_gt (X : (List Value → AS → Prop) → Prop) (us : List Value) (K : List Value → AS → Prop) : kGrd (.bool true) true X us s K = X K := rfl
theorem w_gf (X : (List Value → AS → Prop) → Prop) (us : List Value) (K : List Value → AS → Prop) : kGrd (.bool false) false X us s K = X K := rfl
theorem w_gtf (X : (List Value → AS → Prop) → Prop) (us : List Value) (K : List Value → AS → Prop) : kGrd (.bool true) false X us s K = K us s := rfl
theorem w_gft (X : (List Value → AS → Prop) → Prop) (us : List Value) (K : List Value → AS → Prop) : kGrd (.bool false) true X us s K = K us s := rfl
theorem w_gu (b : Bool) (X : (List Value → AS → Prop) → Prop) (us : List Value) (K : List Value → AS → Prop) : kGrd undef b X us s K = K us s := rfl
theorem w_callv (f : Nat) (a b args : List Value) (h : okFn P f = true) : kCallv P (.func (.func f) a.toArray b.toArray) args s kk = kCall P f (a ++ args ++ b) s kk := by
  simp [kCallv, h]
theorem w_mks (sz bytes : Nat) (z : List Value) (kd kd' : IntKind) (a b : Int) (h0 : 0 ≤ a) (h1 : a ≤ b) (h2 : b ≤ 9223372036854775807) (h3 : bytes * b ≤ 281474976710656) (h4 : z.length = sz) (h5 : 0 < sz) :
    kMks s sz bytes z (.int kd a) (.int kd' b) kk = kk (.slice (some ⟨s.n, 0, none⟩) a.toNat b.toNat) (s.new (.cells (List.replicate b.toNat z).flatten)) := by
  simp only [kMks, h0, h1, h2, h3, h4, h5, true_and]
theorem alt_i {X Y : Prop} (h : X) (k : Y) : kAlt X Y := ⟨h, k⟩
def kChkE (o : Option Value) (v : Value) (X : Prop) (_ : Dm X := ()) : Prop := o = some v ∧ X
theorem w_chk (x v : Value) (X : Prop) : kChk s x v X = kChkE (ldS s x) v X := rfl
theorem w_chkN (n : Nat) (x v : Value) (X : Prop) : kChkN s n x v X = kChkE (ldNS s n x) v X := rfl
theorem w_chkE (v : Value) (X : Prop) : kChkE (some v) v X = X := by simp [kChkE]
theorem b_add (kd : IntKind) (a b : Int) : binV .add (.int kd a) (.int kd b) = some (.int kd (kd.wrap (a + b))) := by simp [binV, intV]
theorem b_sub (kd : IntKind) (a b : Int) : binV .sub (.int kd a) (.int kd b) = some (.int kd (kd.wrap (a - b))) := by simp [binV, intV]
theorem b_mul (kd : IntKind) (a b : Int) : binV .mul (.int kd a) (.int kd b) = some (.int kd (kd.wrap (a * b))) := by simp [binV, intV]
theorem b_eql (kd : IntKind) (a b : Int) : binV .eql (.int kd a) (.int kd b) = some (.bool (decide (a = b))) := by simp [binV, intV]
theorem b_neq (kd : IntKind) (a b : Int) : binV .neq (.int kd a) (.int kd b) = some (.bool (decide (¬ a = b))) := by simp [binV, intV]
theorem b_lss (kd : IntKind) (a b : Int) : binV .lss (.int kd a) (.int kd b) = some (.bool (decide (a < b))) := by simp [binV, intV]
theorem b_leq (kd : IntKind) (a b : Int) : binV .leq (.int kd a) (.int kd b) = some (.bool (decide (a ≤ b))) := by simp [binV, intV]
theorem b_gtr (kd : IntKind) (a b : Int) : binV .gtr (.int kd a) (.int kd b) = some (.bool (decide (b < a))) := by simp [binV, intV]
theorem b_geq (kd : IntKind) (a b : Int) : binV .geq (.int kd a) (.int kd b) = some (.bool (decide (b ≤ a))) := by simp [binV, intV]
theorem b_quo (kd : IntKind) (a b : Int) (h : ¬ b = 0) : binV .quo (.int kd a) (.int kd b) = some (.int kd (kd.wrap (a.tdiv b))) := by simp [binV, intV, h]
theorem b_rem (kd : IntKind) (a b : Int) (h : ¬ b = 0) : binV .rem (.int kd a) (.int kd b) = some (.int kd (a.tmod b)) := by simp [binV, intV, h]
theorem b_sadd (a b : List UInt8) (h : a.length + b.length ≤ 9223372036854775807) : binV .add (.string (bs a)) (.string (bs b)) = some (.string (bs (a ++ b))) := by simp [binV, strV, bs, h]
theorem b_seql (a b : List UInt8) : binV .eql (.string (bs a)) (.string (bs b)) = some (.bool (decide (a = b))) := by
  simp [binV, strV, bs]
  exact decide_eq_decide.2 Iff.rfl
theorem b_sneq (a b : List UInt8) : binV .neq (.string (bs a)) (.string (bs b)) = some (.bool (decide (¬ a = b))) := by
  simp [binV, strV, bs]
  by_cases h : a = b <;> simp [h]
theorem wrap64 (n : Int) (h1 : -9223372036854775808 ≤ n) (h2 : n ≤ 9223372036854775807) : IntKind.i64.wrap n = n := by
  rw [IntKind.wrap_i64]; omega
theorem wrapU8 (n : Int) (h1 : 0 ≤ n) (h2 : n ≤ 255) : IntKind.u8.wrap n = n := by
  simp [IntKind.wrap, IntKind.bits, IntKind.signed]; omega
theorem tdivN (a b : Int) (h1 : 0 ≤ a) (h2 : 0 ≤ b) : a.tdiv b = a / b := Int.tdiv_eq_ediv_of_nonneg h1
theorem tmodN (a b : Int) (h1 : 0 ≤ a) (h2 : 0 ≤ b) : a.tmod b = a % b := Int.tmod_eq_emod_of_nonneg h1
theorem decT {p : Prop} [Decidable p] (h : p) : decide p = true := by simp [h]
theorem decF {p : Prop} [Decidable p] (h : ¬ p) : decide p = false := by simp [h]
theorem iteT {α : Type} {p : Prop} [Decidable p] {a b : α} (h : p) : (if p then a else b) = a := if_pos h
theorem iteF {α : Type} {p : Prop} [Decidable p] {a b : α} (h : ¬ p) : (if p then a else b) = b := if_neg h
theorem n_ptr (a : Addr) : nckV (.pointer (some a)) = some (.pointer (some a)) := rfl
theorem n_fn (f : FuncId) (a b : Array Value) : nckV (.func (.func f) a b) = some (.func (.func f) a b) := rfl
theorem n_if (t : TypeId) (v : Value) : nckV (.iface t v) = some (.iface t v) := rfl
theorem add_eq (b o n : Nat) : (⟨b, o, none⟩ : Addr).add n = ⟨b, o + n, none⟩ := by
  unfold Addr.add; split <;> simp_all
theorem f_ptr (off b o : Nat) : fldV off (.pointer (some ⟨b, o, none⟩)) = some (.pointer (some ⟨b, o + off, none⟩)) := by
  rw [← add_eq]; rfl
theorem g_one (off : Nat) (cs : List Value) : get1V off (.agg cs.toArray) = cs[off]? := rfl
theorem g_n (off n : Nat) (cs : List Value) : getNV off n (.agg cs.toArray) = some (.agg ((cs.drop off).take n).toArray) := rfl
theorem e_one (i : Nat) (cs : List Value) : extV i (.tuple cs.toArray) = cs[i]? := rfl
theorem x_in (sz b o n c : Nat) (kd : IntKind) (i : Int) (h0 : 0 ≤ i) (h1 : i < n) : idxV sz (.slice (some ⟨b, o, none⟩) n c) (.int kd i) = some (.pointer (some ⟨b, o + i.toNat * sz, none⟩)) := by
  simp [idxV, h0, h1, add_eq]
theorem xa_in (len sz b o : Nat) (kd : IntKind) (i : Int) (h0 : 0 ≤ i) (h1 : i < len) : idxAV len sz (.pointer (some ⟨b, o, none⟩)) (.int kd i) = some (.pointer (some ⟨b, o + i.toNat * sz, none⟩)) := by
  simp [idxAV, h0, h1, add_eq]
theorem xs_in (l : List UInt8) (kd : IntKind) (i : Int) (h0 : 0 ≤ i) (h1 : i < l.length) : ixSV (.string (bs l)) (.int kd i) = some (.int .u8 (l[i.toNat]?.getD 0).toNat) := by
  have : i.toNat < l.length := by omega
  simp [ixSV, strAt, h0, bs, this]
theorem tn_add (a : Nat) (b : Nat) : ((a : Int) + (b : Int)).toNat = a + b := by omega
theorem tn_add1 (a : Nat) : ((a : Int) + 1).toNat = a + 1 := by omega
theorem tn_sub1 (a : Nat) : ((a : Int) - 1).toNat = a - 1 := by omega
theorem tn_add2 (a : Nat) : ((a : Int) + 2).toNat = a + 2 := by omega
theorem tn_sub2 (a : Nat) : ((a : Int) - 2).toNat = a - 2 := by omega
theorem ld_p (b o : Nat) : ldS s (.pointer (some ⟨b, o, none⟩)) = s.ld b o := by simp [ldS]
theorem ldN_p (n b o : Nat) : ldNS s n (.pointer (some ⟨b, o, none⟩)) = (ldsS s b o n).map fun l => .agg l.toArray := by simp [ldNS]
theorem lds_z (b o : Nat) : ldsS s b o 0 = some [] := rfl
theorem lds_s (b o n : Nat) : ldsS s b o (n + 1) = (s.ld b o).bind fun v => (ldsS s b (o + 1) n).map (v :: ·) := rfl
def ldOb (c : Option Value) : Option Ob → Nat → Option Value
  | some (.cells l), o => l[o]?
  | some (.other _), _ => none
  | some (.typed _ l), o => l[o]?
  | none, _ => c
theorem ld_ob (b o : Nat) : s.ld b o = ldOb (s.c b o) (s.m b) o := by unfold AS.ld ldOb; split <;> simp_all
theorem ob_c (c : Option Value) (l : List Value) (o : Nat) : ldOb c (some (.cells l)) o = l[o]? := rfl
theorem ob_t (c : Option Value) (t : TypeId) (l : List Value) (o : Nat) : ldOb c (some (.typed t l)) o = l[o]? := rfl
theorem ob_n (c : Option Value) (o : Nat) : ldOb c none o = c := rfl
theorem ldsM {g : Nat} {l : List Value} (hb : s.m g = some (.cells l)) : ∀ (n o : Nat), o + n ≤ l.length → ldsS s g o n = some ((l.drop o).take n)
  | 0, o, _ => by simp [ldsS]
  | n + 1, o, h => by
    have hlt : o < l.length := by omega
    rw [lds_s, ld_m hb, List.getElem?_eq_getElem hlt, Option.bind_some, ldsM hb n (o + 1) (by omega), Option.map_some, List.drop_eq_getElem_cons hlt, List.take_succ_cons]
def stOb (s : AS) (b : Nat) (v : Value) (n : Nat) : Option Ob → Nat → Option AS
  | some (.cells l), o => if (cellsV v).length = n ∧ o + n ≤ l.length ∧ (cellsV v).all okCell then some (s.put b (.cells (l.take o ++ cellsV v ++ l.drop (o + n)))) else none
  | some (.typed t l), o => if (cellsV v).length = n ∧ o + n ≤ l.length ∧ (cellsV v).all okCell then some (s.put b (.typed t (l.take o ++ cellsV v ++ l.drop (o + n)))) else none
  | _, _ => none
theorem st_p (n b o : Nat) (v : Value) : stS s n (.pointer (some ⟨b, o, none⟩)) v = stOb s b v n (s.m b) o := by
  simp only [stS, stOb, true_and]
  split <;> simp_all
theorem st1 (b o : Nat) (v : Value) (l : List Value) (hv : okCell v = true) : stOb s b v 1 (some (.cells l)) o = if o < l.length then some (s.put b (.cells (l.set o v))) else none := by
  have hc : cellsV v = [v] := by cases v <;> first | rfl | cases hv
  by_cases h : o < l.length
  · have h' : o + 1 ≤ l.length := h
    simp [stOb, hc, hv, h', List.set_eq_take_append_cons_drop, h]
  · have h' : ¬ o + 1 ≤ l.length := h
    simp [stOb, hc, hv, h', h]
theorem st1t (b o : Nat) (v : Value) (t : TypeId) (l : List Value) (hv : okCell v = true) : stOb s b v 1 (some (.typed t l)) o = if o < l.length then some (s.put b (.typed t (l.set o v))) else none := by
  have hc : cellsV v = [v] := by cases v <;> first | rfl | cases hv
  by_cases h : o < l.length
  · have h' : o + 1 ≤ l.length := h
    simp [stOb, hc, hv, h', List.set_eq_take_append_cons_drop, h]
  · have h' : ¬ o + 1 ≤ l.length := h
    simp [stOb, hc, hv, h', h]
theorem stNt (n b o : Nat) (cs : List Value) (t : TypeId) (l : List Value) (h1 : cs.length = n) (h2 : cs.all okCell = true) : stOb s b (.agg cs.toArray) n (some (.typed t l)) o = if o + n ≤ l.length then some (s.put b (.typed t (l.take o ++ cs ++ l.drop (o + n)))) else none := by
  simp [stOb, cellsV, h1, h2]
theorem stN (n b o : Nat) (cs l : List Value) (h1 : cs.length = n) (h2 : cs.all okCell = true) : stOb s b (.agg cs.toArray) n (some (.cells l)) o = if o + n ≤ l.length then some (s.put b (.cells (l.take o ++ cs ++ l.drop (o + n)))) else none := by
  simp [stOb, cellsV, h1, h2]
theorem ok_int (kd : IntKind) (n : Int) : okCell (.int kd n) = true := rfl
theorem ok_bool (b : Bool) : okCell (.bool b) = true := rfl
theorem ok_str (b : ByteArray) : okCell (.string b) = true := rfl
theorem ok_ptr (a : Option Addr) : okCell (.pointer a) = true := rfl
theorem ok_sl (a : Option Addr) (n c : Nat) : okCell (.slice a n c) = true := rfl
theorem ok_map (a : Option Nat) : okCell (.map a) = true := rfl
theorem ok_fn (f : Fn) (x y : Array Value) : okCell (.func f x y) = true := rfl
theorem ok_nf : okCell .nilFunc = true := rfl
theorem al_n : ([] : List Value).all okCell = true := rfl
theorem al_int (kd : IntKind) (n : Int) (l : List Value) : (Value.int kd n :: l).all okCell = l.all okCell := rfl
theorem al_bool (b : Bool) (l : List Value) : (Value.bool b :: l).all okCell = l.all okCell := rfl
theorem al_str (b : ByteArray) (l : List Value) : (Value.string b :: l).all okCell = l.all okCell := rfl
theorem al_ptr (a : Option Addr) (l : List Value) : (Value.pointer a :: l).all okCell = l.all okCell := rfl
theorem al_sl (a : Option Addr) (n c : Nat) (l : List Value) : (Value.slice a n c :: l).all okCell = l.all okCell := rfl
theorem al_map (a : Option Nat) (l : List Value) : (Value.map a :: l).all okCell = l.all okCell := rfl
theorem al_fn (f : Fn) (x y : Array Value) (l : List Value) : (Value.func f x y :: l).all okCell = l.all okCell := rfl
theorem al_nf (l : List Value) : (Value.nilFunc :: l).all okCell = l.all okCell := rfl
theorem new_at {g : Nat} {ob : Ob} (h : g = σ.n) : (σ.new ob).m g = some ob := by rw [h]; exact new_eq_
theorem put_put {g : Nat} {a b : Ob} : (σ.put g a).put g b = σ.put g b := by
  unfold AS.put
  congr 1
  funext k
  dsimp only
  split
  · rename_i e; subst e; simp [Option.map_map, Function.comp_def]
  · rfl
theorem cv_int (kd kd' : IntKind) (n : Int) : cviV kd (.int kd' n) = some (.int kd (kd.wrap n)) := rfl
theorem len_s (l : List UInt8) : lenV true (.string (bs l)) = some (.int .i64 l.length) := by simp [lenV, bs_size]
theorem len_l (a : Option Addr) (n c : Nat) : lenV false (.slice a n c) = some (.int .i64 n) := rfl
theorem css (s : ByteArray) : cssV (.string s) = some (.string s) := rfl
theorem min_i (kd kd' : IntKind) (x y : Int) : min2V (.int kd x) (.int kd' y) = some (.int kd (if y < x then y else x)) := rfl
theorem max_i (kd kd' : IntKind) (x y : Int) : max2V (.int kd x) (.int kd' y) = some (.int kd (if x < y then y else x)) := rfl
theorem u_not (b : Bool) : unV .not (.bool b) = some (.bool !b) := rfl
theorem u_neg (kd : IntKind) (n : Int) : unV .neg (.int kd n) = some (.int kd (kd.wrap (0 - n))) := rfl
theorem eq_pn (b : Option Addr) : eqV 0 (.pointer none) (.pointer b) = some b.isNone := rfl
theorem eq_ps (a : Addr) : eqV 0 (.pointer (some a)) (.pointer none) = some false := rfl
theorem eq_sn (a : Option Addr) (n c n' c' : Nat) : eqV 1 (.slice none n c) (.slice a n' c') = some a.isNone := rfl
theorem eq_ss (a : Addr) (n c n' c' : Nat) : eqV 1 (.slice (some a) n c) (.slice none n' c') = some false := rfl
theorem eq_mn (b : Option Nat) : eqV 2 (.map none) (.map b) = some b.isNone := rfl
theorem eq_ms (a : Nat) : eqV 2 (.map (some a)) (.map none) = some false := rfl
theorem eq_nn : eqV 3 .nilFunc .nilFunc = some true := rfl
theorem eq_fn (f : Fn) (a b : Array Value) : eqV 3 (.func f a b) .nilFunc = some false := rfl
theorem eq_b (a b : Bool) : eqV 4 (.bool a) (.bool b) = some (a == b) := rfl
theorem eqi_nn : eqI .nilIface .nilIface = some true := rfl
theorem eqi_in (t : TypeId) (v : Value) : eqI (.iface t v) .nilIface = some false := rfl
theorem eqi_ni (t : TypeId) (v : Value) : eqI .nilIface (.iface t v) = some false := rfl
theorem cells_agg (cs : List Value) : cellsV (.agg cs.toArray) = cs := rfl
theorem cells_int (kd : IntKind) (n : Int) : cellsV (.int kd n) = [.int kd n] := rfl
theorem cells_bool (b : Bool) : cellsV (.bool b) = [.bool b] := rfl
theorem cells_str (s : ByteArray) : cellsV (.string s) = [.string s] := rfl
theorem cells_ptr (a : Option Addr) : cellsV (.pointer a) = [.pointer a] := rfl
theorem cells_sl (a : Option Addr) (n c : Nat) : cellsV (.slice a n c) = [.slice a n c] := rfl
theorem cells_map (a : Option Nat) : cellsV (.map a) = [.map a] := rfl
theorem cells_fn (f : Fn) (a b : Array Value) : cellsV (.func f a b) = [.func f a b] := rfl
theorem cells_nf : cellsV .nilFunc = [.nilFunc] := rfl
theorem sub_s (l : List UInt8) (lo hi : Option Value) : subSV (.string (bs l)) lo hi = (bndV 0 lo).bind fun a => (bndV l.length hi).bind fun b => subV l a b := by
  simp only [subSV, bs_size, bs_data]
theorem bnd_n (d : Nat) : bndV d none = some (d : Int) := rfl
theorem bnd_s (d : Nat) (kd : IntKind) (i : Int) : bndV d (some (.int kd i)) = some i := rfl
theorem sub_in (l : List UInt8) (lo hi : Int) (h1 : 0 ≤ lo) (h2 : lo ≤ hi) (h3 : hi ≤ l.length) : subV l lo hi = some (.string (bs ((l.drop lo.toNat).take (hi.toNat - lo.toNat)))) := by
  simp [subV, h1, h2, h3]
theorem sub_l (sz : Nat) (a : Option Addr) (n c : Nat) (lo hi : Option Value) : subLV sz (.slice a n c) lo hi = (bndV 0 lo).bind fun x => (bndV n hi).bind fun y => cutV sz a c x y := rfl
theorem sub_a (len sz : Nat) (a : Addr) (lo hi : Option Value) : subAV len sz (.pointer (some a)) lo hi = (bndV 0 lo).bind fun x => (bndV len hi).bind fun y => cutV sz (some a) len x y := rfl
theorem cut_in (sz : Nat) (a : Option Addr) (c : Nat) (lo hi : Int) (h1 : 0 ≤ lo) (h2 : lo ≤ hi) (h3 : hi ≤ c) : cutV sz a c lo hi = some (.slice (if c = lo.toNat then a else a.map (·.add (lo.toNat * sz))) (hi.toNat - lo.toNat) (c - lo.toNat)) := by
  simp [cutV, h1, h2, h3]
theorem lay_nil (l : List Value) : lay l [] = some l := rfl
theorem lay_cons (l : List Value) (off n : Nat) (v : Value) (r : List (Nat × Nat × Value)) : lay l ((off, n, v) :: r) = if (cellsV v).length = n ∧ off + n ≤ l.length then lay (l.take off ++ cellsV v ++ l.drop (off + n)) r else none := rfl
theorem some_bind {α β : Type} (a : α) (f : α → Option β) : (some a).bind f = f a := rfl
theorem some_map {α β : Type} (a : α) (f : α → β) : (some a).map f = some (f a) := rfl
theorem none_map {α β : Type} (f : α → β) : (none : Option α).map f = none := rfl
theorem if_t0 {α : Type} (a b : α) : (if True then a else b) = a := if_true ..
theorem if_f0 {α : Type} (a b : α) : (if False then a else b) = b := if_false ..
theorem isn_s {α : Type} (a : α) : (some a).isNone = false := rfl
theorem isn_n {α : Type} : (none : Option α).isNone = true := rfl
theorem bne_f (b : Bool) : (b != false) = b := by cases b <;> rfl
theorem bne_t (b : Bool) : (b != true) = !b := by cases b <;> rfl
theorem not_t : (!true) = false := rfl
theorem not_f : (!false) = true := rfl
theorem get_z {α : Type} (a : α) (l : List α) : (a :: l)[0]? = some a := rfl
theorem get_s {α : Type} (a : α) (l : List α) (n : Nat) : (a :: l)[n + 1]? = l[n]? := rfl
theorem set_z {α : Type} (a v : α) (l : List α) : (a :: l).set 0 v = v :: l := rfl
theorem set_s {α : Type} (a v : α) (l : List α) (n : Nat) : (a :: l).set (n + 1) v = a :: l.set n v := rfl
theorem len_c {α : Type} (a : α) (l : List α) : (a :: l).length = l.length + 1 := rfl
theorem len_n {α : Type} : ([] : List α).length = 0 := rfl
theorem ln_app {α : Type} (l m : List α) : (l ++ m).length = l.length + m.length := List.length_append
theorem ln_map {α β : Type} (f : α → β) (l : List α) : (l.map f).length = l.length := List.length_map ..
theorem ln_rep {α : Type} (n : Nat) (a : α) : (List.replicate n a).length = n := List.length_replicate ..
theorem ln_set {α : Type} (l : List α) (n : Nat) (a : α) : (l.set n a).length = l.length := List.length_set ..
theorem ln_take {α : Type} (n : Nat) (l : List α) : (l.take n).length = min n l.length := List.length_take ..
theorem ln_drop {α : Type} (n : Nat) (l : List α) : (l.drop n).length = l.length - n := List.length_drop ..
theorem app_n {α : Type} (l : List α) : [] ++ l = l := rfl
theorem app_c {α : Type} (a : α) (l m : List α) : (a :: l) ++ m = a :: (l ++ m) := rfl
theorem app_r {α : Type} (l : List α) : l ++ [] = l := List.append_nil l
theorem tk_z {α : Type} (l : List α) : l.take 0 = [] := rfl
theorem tk_s {α : Type} (a : α) (l : List α) (n : Nat) : (a :: l).take (n + 1) = a :: l.take n := rfl
theorem dr_z {α : Type} (l : List α) : l.drop 0 = l := rfl
theorem dr_s {α : Type} (a : α) (l : List α) (n : Nat) : (a :: l).drop (n + 1) = l.drop n := rfl
theorem tk_n {α : Type} (n : Nat) : ([] : List α).take n = [] := by simp
theorem dr_n {α : Type} (n : Nat) : ([] : List α).drop n = [] := by simp
theorem and_t (p : Prop) : (p ∧ True) = p := and_true p
theorem t_and (p : Prop) : (True ∧ p) = p := true_and p
theorem eq_t {α : Type} (a : α) : (a = a) = True := eq_self a
theorem nz_add (n : Nat) : 0 + n = n := Nat.zero_add n
theorem add_z (n : Nat) : n + 0 = n := rfl
theorem mul_o (n : Nat) : n * 1 = n := Nat.mul_one n
theorem tn_cast (n : Nat) : ((n : Int)).toNat = n := Int.toNat_natCast n
theorem beq_tr (b : Bool) : (b == true) = b := by cases b <;> rfl
theorem beq_fr (b : Bool) : (b == false) = !b := by cases b <;> rfl
theorem beq_tl (b : Bool) : (true == b) = b := by cases b <;> rfl
theorem beq_fl (b : Bool) : (false == b) = !b := by cases b <;> rfl
theorem dec_t : decide True = true := rfl
theorem dec_f : decide False = false := rfl
theorem dec_n (p : Prop) [Decidable p] : decide (¬ p) = !decide p := by by_cases h : p <;> simp [h]
theorem join_by {J : List Value → AS → Prop} {B : (List Value → AS → Prop) → Prop} (h : ∀ J' : List Value → AS → Prop, (∀ xs s, J xs s → J' xs s) → B J') : kStop J B := h J fun _ _ h => h
theorem join_now {J : List Value → AS → Prop} {B : (List Value → AS → Prop) → Prop} (h : B J) : kStop J B := h
theorem loop_by {α : Type} {B : (List Value → AS → Prop) → List Value → AS → Prop} {xs : List Value} (X : α → List Value) (T : α → AS) (Ok : α → Prop) (μ : α → Nat) (a : α) (h0 : Ok a) (hx : xs = X a) (hs : s = T a)
    (h : ∀ a, Ok a → ∀ again : List Value → AS → Prop, (∀ b, Ok b → μ b < μ a → again (X b) (T b)) → B again (X a) (T a)) : kLoop B xs s := by
  refine ⟨fun n xs s => ∃ a, Ok a ∧ xs = X a ∧ s = T a ∧ μ a = n, ⟨μ a, a, h0, hx, hs, rfl⟩, ?_⟩
  rintro n _ _ ⟨a, ha, rfl, rfl, rfl⟩
  exact h a ha _ fun b hb hlt => ⟨μ b, hlt, b, hb, rfl, rfl, rfl⟩
end
abbrev T {p : Prop} (_ : p) : Prop := p
theorem preR : T @w_bin ∧ T @w_sft ∧ T @w_eq ∧ T @w_eqi ∧ T @w_un ∧ T @w_ld ∧ T @w_ldN ∧ T @w_st ∧ T @w_build ∧ T @w_bsl ∧ T @w_nck ∧ T @w_fld ∧ T @w_get ∧ T @w_getN ∧ T @w_idx ∧ T @w_idxA ∧ T @w_ixS ∧ T @w_subS ∧ T @w_subL ∧ T @w_subA ∧ T @w_cvi ∧ T @w_cvSS ∧ T @w_ext ∧ T @w_len ∧ T @w_min ∧ T @w_max ∧ T @w_mkm ∧ T @w_chk ∧ T @w_chkN :=
  ⟨@w_bin, @w_sft, @w_eq, @w_eqi, @w_un, @w_ld, @w_ldN, @w_st, @w_build, @w_bsl, @w_nck, @w_fld, @w_get, @w_getN, @w_idx, @w_idxA, @w_ixS, @w_subS, @w_subL, @w_subA, @w_cvi, @w_cvSS, @w_ext, @w_len, @w_min, @w_max, @w_mkm, @w_chk, @w_chkN⟩
theorem postR : T @w_new ∧ T @w_newT ∧ T @w_pt ∧ T @w_pf ∧ T @w_ct ∧ T @w_cf ∧ T @w_gt ∧ T @w_gf ∧ T @w_gtf ∧ T @w_gft ∧ T @w_gu ∧ T @w_mks ∧ T @b_add ∧ T @b_sub ∧ T @b_mul ∧ T @b_eql ∧ T @b_neq ∧ T @b_lss ∧ T @b_leq ∧ T @b_gtr ∧ T @b_geq ∧ T @b_quo ∧ T @b_rem ∧ T @b_sadd ∧ T @b_seql ∧ T @b_sneq ∧ T @wrap64 ∧ T @wrapU8 ∧ T @tdivN ∧ T @tmodN ∧ T @decT ∧ T @decF ∧ T @iteT ∧ T @iteF ∧ T @n_ptr ∧ T @n_fn ∧ T @n_if ∧ T @add_eq ∧ T @f_ptr ∧ T @g_one ∧ T @g_n ∧ T @e_one ∧ T @x_in ∧ T @xa_in ∧ T @xs_in ∧ T @tn_add ∧ T @tn_add1 ∧ T @tn_sub1 ∧ T @tn_add2 ∧ T @tn_sub2 ∧ T @ld_p ∧ T @ldN_p ∧ T @lds_z ∧ T @lds_s ∧ T @ld_ob ∧ T @ob_c ∧ T @ob_t ∧ T @ob_n ∧ T @st_p ∧ T @st1 ∧ T @st1t ∧ T @stNt ∧ T @stN ∧ T @ok_int ∧ T @ok_bool ∧ T @ok_str ∧ T @ok_ptr ∧ T @ok_sl ∧ T @ok_map ∧ T @ok_fn ∧ T @ok_nf ∧ T @new_at ∧ T @put_put ∧ T @cv_int ∧ T @len_s ∧ T @len_l ∧ T @css ∧ T @min_i ∧ T @max_i ∧ T @u_not ∧ T @u_neg ∧ T @eq_pn ∧ T @eq_ps ∧ T @eq_sn ∧ T @eq_ss ∧ T @eq_mn ∧ T @eq_ms ∧ T @eq_nn ∧ T @eq_fn ∧ T @eq_b ∧ T @eqi_nn ∧ T @eqi_in ∧ T @eqi_ni ∧ T @cells_agg ∧ T @cells_int ∧ T @cells_bool ∧ T @cells_str ∧ T @cells_ptr ∧ T @cells_sl ∧ T @cells_map ∧ T @cells_fn ∧ T @cells_nf ∧ T @sub_s ∧ T @bnd_n ∧ T @bnd_s ∧ T @sub_in ∧ T @sub_l ∧ T @sub_a ∧ T @cut_in ∧ T @lay_nil ∧ T @lay_cons ∧ T @some_bind ∧ T @some_map ∧ T @none_map ∧ T @if_t0 ∧ T @if_f0 ∧ T @isn_s ∧ T @isn_n ∧ T @bne_f ∧ T @bne_t ∧ T @not_t ∧ T @not_f ∧ T @get_z ∧ T @get_s ∧ T @set_z ∧ T @set_s ∧ T @len_c ∧ T @len_n ∧ T @app_n ∧ T @app_c ∧ T @app_r ∧ T @tk_z ∧ T @tk_s ∧ T @dr_z ∧ T @dr_s ∧ T @tk_n ∧ T @dr_n ∧ T @and_t ∧ T @t_and ∧ T @eq_t ∧ T @nz_add ∧ T @add_z ∧ T @mul_o ∧ T @tn_cast ∧ T @beq_tr ∧ T @beq_fr ∧ T @beq_tl ∧ T @beq_fl ∧ T @dec_t ∧ T @dec_f ∧ T @dec_n ∧ T @seqA_some ∧ T @up_m ∧ T @up_c ∧ T @up_n ∧ T @up_up ∧ T @new_c ∧ T @new_n ∧ T @new_ne ∧ T @del_c ∧ T @del_n ∧ T @del_ne ∧ T @put_c ∧ T @put_n ∧ T @put_eq ∧ T @put_ne ∧ T @un1_l ∧ T @un2_l ∧ T @un3_l ∧ T @un4_l ∧ T @un5_l ∧ T @un6_l ∧ T @un7_l ∧ T @un8_l ∧ T @un9_l ∧ T @un10_l ∧ T @un11_l ∧ T @un12_l ∧ T @un13_l ∧ T @un14_l ∧ T @un15_l ∧ T @un16_l ∧ T @w_chkE :=
  ⟨@w_new, @w_newT, @w_pt, @w_pf, @w_ct, @w_cf, @w_gt, @w_gf, @w_gtf, @w_gft, @w_gu, @w_mks, @b_add, @b_sub, @b_mul, @b_eql, @b_neq, @b_lss, @b_leq, @b_gtr, @b_geq, @b_quo, @b_rem, @b_sadd, @b_seql, @b_sneq, @wrap64, @wrapU8, @tdivN, @tmodN, @decT, @decF, @iteT, @iteF, @n_ptr, @n_fn, @n_if, @add_eq, @f_ptr, @g_one, @g_n, @e_one, @x_in, @xa_in, @xs_in, @tn_add, @tn_add1, @tn_sub1, @tn_add2, @tn_sub2, @ld_p, @ldN_p, @lds_z, @lds_s, @ld_ob, @ob_c, @ob_t, @ob_n, @st_p, @st1, @st1t, @stNt, @stN, @ok_int, @ok_bool, @ok_str, @ok_ptr, @ok_sl, @ok_map, @ok_fn, @ok_nf, @new_at, @put_put, @cv_int, @len_s, @len_l, @css, @min_i, @max_i, @u_not, @u_neg, @eq_pn, @eq_ps, @eq_sn, @eq_ss, @eq_mn, @eq_ms, @eq_nn, @eq_fn, @eq_b, @eqi_nn, @eqi_in, @eqi_ni, @cells_agg, @cells_int, @cells_bool, @cells_str, @cells_ptr, @cells_sl, @cells_map, @cells_fn, @cells_nf, @sub_s, @bnd_n, @bnd_s, @sub_in, @sub_l, @sub_a, @cut_in, @lay_nil, @lay_cons, @some_bind, @some_map, @none_map, @if_t0, @if_f0, @isn_s, @isn_n, @bne_f, @bne_t, @not_t, @not_f, @get_z, @get_s, @set_z, @set_s, @len_c, @len_n, @app_n, @app_c, @app_r, @tk_z, @tk_s, @dr_z, @dr_s, @tk_n, @dr_n, @and_t, @t_and, @eq_t, @nz_add, @add_z, @mul_o, @tn_cast, @beq_tr, @beq_fr, @beq_tl, @beq_fl, @dec_t, @dec_f, @dec_n, @seqA_some, @up_m, @up_c, @up_n, @up_up, @new_c, @new_n, @new_ne, @del_c, @del_n, @del_ne, @put_c, @put_n, @put_eq, @put_ne, @un1_l, @un2_l, @un3_l, @un4_l, @un5_l, @un6_l, @un7_l, @un8_l, @un9_l, @un10_l, @un11_l, @un12_l, @un13_l, @un14_l, @un15_l, @un16_l, @w_chkE⟩
theorem sizeR : T @up_n ∧ T @new_n ∧ T @put_n ∧ T @del_n ∧ T @len_c ∧ T @len_n ∧ T @ln_app ∧ T @ln_map ∧ T @ln_rep ∧ T @ln_set ∧ T @ln_take ∧ T @ln_drop :=
  ⟨@up_n, @new_n, @put_n, @del_n, @len_c, @len_n, @ln_app, @ln_map, @ln_rep, @ln_set, @ln_take, @ln_drop⟩
theorem okR : T @ok_int ∧ T @ok_bool ∧ T @ok_str ∧ T @ok_ptr ∧ T @ok_sl ∧ T @ok_map ∧ T @ok_fn ∧ T @ok_nf ∧ T @al_n ∧ T @al_int ∧ T @al_bool ∧ T @al_str ∧ T @al_ptr ∧ T @al_sl ∧ T @al_map ∧ T @al_fn ∧ T @al_nf := ⟨@ok_int, @ok_bool, @ok_str, @ok_ptr, @ok_sl, @ok_map, @ok_fn, @ok_nf, @al_n, @al_int, @al_bool, @al_str, @al_ptr, @al_sl, @al_map, @al_fn, @al_nf⟩
theorem dsc {p : Prop} (h : p := by first | omega | (simp only [okR]; done) | (simp only [sizeR] <;> omega)) : p := h
end Go.Proofs.YtdlimikcgdgfpaaGreatDoor.E
namespace Go.Proofs.YtdlimikcgdgfpaaGreatDoor.E
open Go.RowKit
structure Wk (σ σ' : AS) : Prop where
  n : σ'.n = σ.n
  m : ∀ g ob, σ'.m g = some ob → σ.m g = some ob
  c : ∀ b o v, σ'.c b o = some v → σ.ld b o = some v
structure Gar (a σ : AS) : Prop where
  n : a.n ≤ σ.n
  m : ∀ g, g < a.n → σ.m g = a.m g
  c : σ.c = a.c
section
variable {P : Program} {a σ σ' : AS} {w : World} {k : Value → AS → Prop} {f : Nat} {args : List Value}
theorem Wk.refl (σ : AS) : Wk σ σ := ⟨rfl, fun _ _ h => h, fun _ _ _ h => ld_c h⟩
theorem Gar.refl (a : AS) : Gar a a := ⟨Nat.le_refl _, fun _ _ => rfl, rfl⟩
theorem Gar.trans {b : AS} (h : Gar a b) (k : Gar b σ) : Gar a σ := ⟨Nat.le_trans h.n k.n, fun g hg => (k.m g (Nat.lt_of_lt_of_le hg h.n)).trans (h.m g hg), k.c.trans h.c⟩
theorem AS.ext' {a b : AS} (hm : ∀ g, a.m g = b.m g) (hc : a.c = b.c) (hn : a.n = b.n) : a = b := by
  cases a; cases b
  simp only at hc hn
  obtain rfl := funext hm
  subst hc; subst hn
  congr 1
theorem put_same {g : Nat} {ob : Ob} (h : σ.m g = some ob) : σ.put g ob = σ := AS.ext' (fun k => by
  by_cases e : k = g
  · subst e; rw [put_eq, h]; rfl
  · rw [put_ne e]) rfl rfl
end
end Go.Proofs.YtdlimikcgdgfpaaGreatDoor.E
namespace Go.Proofs.YtdlimikcgdgfpaaGreatDoor.E
open Go.RowKit
structure Chg (S : List Nat) (a σ : AS) : Prop where
  n : a.n ≤ σ.n
  m : ∀ g, g < a.n → g ∉ S → σ.m g = a.m g
  c : σ.c = a.c
def ownL : Value → List Nat
  | .slice (some a) _ _ => [a.block]
  | _ => []
def OwnV (σ : AS) (v : Value) (n sz : Nat) (xs : List Value) : Prop :=
  (v = .slice none 0 0 ∧ n = 0 ∧ xs = []) ∨
  ∃ g c sp, v = .slice (some ⟨g, 0, none⟩) n c ∧ σ.m g = some (.cells (xs ++ sp)) ∧ xs.length = n * sz ∧ (xs ++ sp).length = c * sz ∧ n ≤ c ∧ c ≤ maxLen
section
variable {P : Program} {a b σ σ' : AS} {w : World} {k : Value → AS → Prop} {S T : List Nat} {v : Value} {n sz : Nat} {xs : List Value}
theorem Gar.chg (h : Gar a σ) : Chg [] a σ := ⟨h.n, fun g hg _ => h.m g hg, h.c⟩
theorem Chg.refl (S : List Nat) (a : AS) : Chg S a a := ⟨Nat.le_refl _, fun _ _ _ => rfl, rfl⟩
theorem Chg.step (h : Chg S a b) (k : Chg T b σ) (ht : ∀ i, i ∈ T → i ∈ S ∨ a.n ≤ i) : Chg S a σ :=
  ⟨Nat.le_trans h.n k.n, fun g hg hn => (k.m g (Nat.lt_of_lt_of_le hg h.n) (fun hT => by
    rcases ht g hT with h1 | h1
    · exact hn h1
    · omega)).trans (h.m g hg hn), k.c.trans h.c⟩
theorem Chg.new (h : Chg S a σ) (ob : Ob) : Chg S a (σ.new ob) := ⟨by rw [new_n]; have := h.n; omega, fun g hg hn => by rw [new_ne (by have := h.n; omega)]; exact h.m g hg hn, h.c⟩
theorem Chg.up (h : Chg S a σ) (j : Nat) : Chg S a (σ.up j) := ⟨by rw [up_n]; have := h.n; omega, h.m, h.c⟩
theorem Chg.put (h : Chg S a σ) {g : Nat} (hg : g ∈ S ∨ a.n ≤ g) (ob : Ob) : Chg S a (σ.put g ob) := ⟨h.n, fun k hk hn => by
  rw [put_ne (by
    rintro rfl
    rcases hg with h1 | h1
    · exact hn h1
    · omega)]
  exact h.m k hk hn, h.c⟩
theorem Chg.del (h : Chg S a σ) {g : Nat} (hg : g ∈ S ∨ a.n ≤ g) : Chg S a (σ.del g) := ⟨h.n, fun k hk hn => by
  rw [del_ne (by
    rintro rfl
    rcases hg with h1 | h1
    · exact hn h1
    · omega)]
  exact h.m k hk hn, h.c⟩
theorem OwnV.nil (σ : AS) (sz : Nat) : OwnV σ (.slice none 0 0) 0 sz [] := .inl ⟨rfl, rfl, rfl⟩
theorem OwnV.len (h : OwnV σ v n sz xs) : xs.length = n * sz := by
  rcases h with ⟨_, rfl, rfl⟩ | ⟨_, _, _, _, _, h, _⟩
  · simp
  · exact h
theorem OwnV.lt (h : OwnV σ v n sz xs) {g : Nat} (hg : g ∈ ownL v) : g < σ.n := by
  rcases h with ⟨rfl, _, _⟩ | ⟨g', c, sp, rfl, hm, _⟩
  · simp [ownL] at hg
  · simp [ownL] at hg
    subst hg
    exact σ.lt hm
theorem OwnV.chg (h : OwnV σ v n sz xs) (k : Chg S σ σ') (hn : ∀ g, g ∈ ownL v → g ∉ S) : OwnV σ' v n sz xs := by
  rcases h with h | ⟨g, c, sp, rfl, hm, r⟩
  · exact .inl h
  · exact .inr ⟨g, c, sp, rfl, (k.m g (σ.lt hm) (hn g (by simp [ownL]))).trans hm, r⟩
theorem OwnV.val (h : OwnV σ v n sz xs) : ∃ x c, v = .slice x n c ∧ n ≤ c := by
  rcases h with ⟨rfl, rfl, _⟩ | ⟨g, c, sp, rfl, _, _, _, h, _⟩
  · exact ⟨none, 0, rfl, Nat.le_refl _⟩
  · exact ⟨_, c, rfl, h⟩
def infB (P : Program) (e : TypeId) (sz bytes : Nat) : Bool :=
  match P.info? e with
  | some i => (match i.zero with | some z => i.size == sz && i.bytes == bytes && z.cells.size == sz && decide (0 < sz) | none => false)
  | none => false
theorem infB_ok {e : TypeId} {sz bytes : Nat} (h : infB P e sz bytes = true) : ∃ i z, P.info? e = some i ∧ i.zero = some z ∧ i.size = sz ∧ i.bytes = bytes ∧ z.cells.size = sz ∧ 0 < sz := by
  unfold infB at h
  split at h
  · rename_i i hi
    split at h
    · rename_i z hz
      simp only [Bool.and_eq_true, beq_iff_eq, decide_eq_true_eq] at h
      exact ⟨i, z, hi, hz, h.1.1.1, h.1.1.2, h.1.2, h.2⟩
    · cases h
  · cases h
theorem run_room (w : World) (t ty e t0 : TypeId) (i : TypeInfo) (ht : P.underlying t = some (.slice e)) (hi : P.info? e = some i)
    (g sLen sCap : Nat) (cur : Array Value) (hg : w.heap[g]? = some (.cells cur t0 (0, 0)))
    (a : Addr) (m c : Nat) (news : List Value) (hl : news.length = m * i.size) (hnews : ∀ j u, news[j]? = some u → w.cell? (a.add j) = some u) (h1 : ∀ u ∈ news, u.oneCell' = true)
    (hroom : sLen + m ≤ sCap) (hfit : sLen * i.size + news.length ≤ cur.size) :
    (Builtin.append_ #[t, t] ty #[.slice (some ⟨g, 0, none⟩) sLen sCap, .slice (some a) m c]).run P w =
      .ok (.slice (some ⟨g, 0, none⟩) (sLen + m) sCap) (w.setRow g (cur.toList.take (sLen * i.size) ++ news ++ cur.toList.drop (sLen * i.size + news.length)).toArray) := by
  have hf := run_firstCells_some (P := P) w i.size m a m c news hl hnews
  have hst := run_storeCells_at P g (sLen * i.size) t0 news 0 cur w hg (by simpa using hfit) h1
  simp only [Nat.add_zero] at hst
  have hadd : (⟨g, 0, none⟩ : Addr).add (sLen * i.size) = ⟨g, sLen * i.size, none⟩ := by rw [E.add_eq]; simp
  simp [Builtin.append_, run_underlying ht, sizeOf, typeInfo, hi, Builtin.lenOf, hroom, hf, hadd, hst]
theorem cells_of_lds (hw : Sat σ w) {b o : Nat} : ∀ {n : Nat} {l : List Value} {o : Nat}, ldsS σ b o n = some l → ∀ j u, l[j]? = some u → w.cell? ⟨b, o + j, none⟩ = some u
  | 0, l, o, h, j, u, hu => by injection h with h; subst h; simp at hu
  | n + 1, l, o, h, j, u, hu => by
    simp only [ldsS, Option.bind_eq_some_iff, Option.map_eq_some_iff] at h
    obtain ⟨v, hv, r, hr, rfl⟩ := h
    cases j with
    | zero => simp at hu; subst hu; exact hw.ld hv
    | succ j =>
      have := cells_of_lds hw (b := b) (o := o) hr j u (by simpa using hu)
      rw [show o + (j + 1) = o + 1 + j from by omega]
      exact this
theorem ldsS_len {b : Nat} : ∀ {n o : Nat} {l : List Value}, ldsS σ b o n = some l → l.length = n
  | 0, o, l, h => by injection h with h; subst h; rfl
  | n + 1, o, l, h => by
    simp only [ldsS, Option.bind_eq_some_iff, Option.map_eq_some_iff] at h
    obtain ⟨v, hv, r, hr, rfl⟩ := h
    simp [ldsS_len hr]
theorem Sat.drew (h : Sat σ w) : Sat σ w.drew := ⟨h.sz, fun g ob hg => obAt_congr (w := w) rfl (h.m g ob hg), h.c⟩
theorem KeepP.drew_alloc (S : Nat → Prop) (w : World) (o : Obj) : KeepP S w (w.drew.alloc o) := (⟨rfl, rfl, rfl, Nat.le_refl _, fun _ _ _ => rfl⟩ : KeepP S w w.drew).step (KeepP.alloc (fun _ => False) w.drew o) (fun _ h => h.elim)
theorem app_by {t e bytes m c b o : Nat} {news : List Value} (ht : P.underlying t = some (.slice e)) (hi : infB P e sz bytes = true) (hown : OwnV σ v n sz xs)
    (hn : ldsS σ b o (m * sz) = some news) (h1 : news.all okCell = true) (hlen : (n + m) * bytes ≤ 140737488355328) (hlen' : n + m ≤ maxLen)
    (hk : ∀ v' σ', OwnV σ' v' (n + m) sz (xs ++ news) → Chg (ownL v) σ σ' → (∀ g, g ∈ ownL v' → g ∈ ownL v ∨ g = σ.n) → k v' σ') : kApp P t t v (.slice (some ⟨b, o, none⟩) m c) σ k := by
  obtain ⟨i, z, hi1, hi2, hi3, hi4, hi5, hi6⟩ := infB_ok hi
  have hl := ldsS_len hn
  intro w hw
  have hcell : ∀ j u, news[j]? = some u → w.cell? ((⟨b, o, none⟩ : Addr).add j) = some u := fun j u hu => by
    rw [E.add_eq]; exact cells_of_lds hw (b := b) (o := o) hn j u hu
  have hok : ∀ u ∈ news, u.oneCell' = true := fun u hu => by rw [okCell_eq]; exact List.all_eq_true.1 h1 u hu
  have hml : n + m ≤ 9223372036854775807 := by unfold maxLen at hlen'; omega
  -- the growing arm
  have grown : ∀ (old : Nat), old < n + m → xs.length = n * sz → (∀ g, g ∈ ownL v → True) → ∀ cap, cap = grownCap w (n + m) old e →
      Out σ w k (.slice (some ⟨w.heap.size, 0, none⟩) (n + m) cap) (w.drew.alloc (.cells (xs.toArray ++ news.toArray ++ Builtin.zeroCells z.cells (cap - (n + m))) e)) := by
    rintro old ho hxl _ cap rfl
    have hge := grownCap_ge w (n + m) old e
    have hcm : grownCap w (n + m) old e ≤ maxLen := grownCap_le_maxLen w (n + m) old e hlen'
    have hz : w.heap.size = σ.n := hw.sz
    have hnew := hw.drew.new (xs ++ news ++ (Builtin.zeroCells z.cells (grownCap w (n + m) old e - (n + m))).toList) e
    have harr : (xs ++ news ++ (Builtin.zeroCells z.cells (grownCap w (n + m) old e - (n + m))).toList).toArray = xs.toArray ++ news.toArray ++ Builtin.zeroCells z.cells (grownCap w (n + m) old e - (n + m)) := by
      apply Array.toList_inj.1; simp
    refine ⟨KeepP.drew_alloc _ _ _, σ.new (.cells (xs ++ news ++ (Builtin.zeroCells z.cells (grownCap w (n + m) old e - (n + m))).toList)), ?_, Fol.new _ _, ?_⟩
    · have : new w.drew (xs ++ news ++ (Builtin.zeroCells z.cells (grownCap w (n + m) old e - (n + m))).toList) e = w.drew.alloc (.cells (xs.toArray ++ news.toArray ++ Builtin.zeroCells z.cells (grownCap w (n + m) old e - (n + m))) e) := by
        unfold new; rw [harr]
      rw [← this]; exact hnew
    · rw [hz]
      refine hk _ _ (.inr ⟨σ.n, _, _, rfl, by rw [new_eq_], by rw [List.length_append, hxl, hl, Nat.add_mul], ?_, hge, hcm⟩) ((Chg.refl _ _).new _) (fun g hg => ?_)
      · simp only [List.length_append, Array.length_toList, size_zeroCells, hi5, hxl, hl, ← Nat.add_mul]
        congr 1; omega
      · simp [ownL] at hg; exact .inr hg
  rcases hown with ⟨rfl, rfl, rfl⟩ | ⟨g, cap, sp, rfl, hm, hxl, hcl, hnc, hcm⟩
  · by_cases hm0 : m = 0
    · subst hm0
      have : news = [] := List.eq_nil_of_length_eq_zero (by simpa using hl)
      subst this
      refine ⟨.slice none 0 0, w, ?_, KeepP.refl _ _, σ, hw, Fol.refl _, hk _ _ (.inl ⟨rfl, rfl, rfl⟩) (Chg.refl _ _) (fun g hg => .inl hg)⟩
      simp [Builtin.append_, run_underlying ht, sizeOf, typeInfo, hi1, Builtin.lenOf, Builtin.firstCells, loadCells, loadCellsFrom]
    · have hr := run_append_nil (P := P) w t 0 e i z ht hi1 hi2 ⟨b, o, none⟩ m c news (by rw [hl, hi3]) hcell (by omega) (by omega) (by rw [hi4]; simp only [Nat.zero_add] at hlen; omega)
      have := grown 0 (by omega) (by simp) (fun _ _ => trivial) _ rfl
      simp only [Nat.zero_add, Array.empty_append] at this
      refine ⟨_, _, hr, ?_⟩
      exact this
  · have hb : blk w g = some (xs ++ sp) := hw.m g _ hm
    obtain ⟨t0, ht0⟩ := blk_some hb
    by_cases hroom : n + m ≤ cap
    · have hfit : n * i.size + news.length ≤ (xs ++ sp).toArray.size := by
        rw [List.size_toArray, hcl, hl, hi3, ← Nat.add_mul]; exact Nat.mul_le_mul_right _ hroom
      have hr := run_room (P := P) w t 0 e t0 i ht hi1 g n cap _ ht0 ⟨b, o, none⟩ m c news (by rw [hl, hi3]) hcell hok hroom hfit
      refine ⟨_, _, hr, ?_⟩
      rw [put_row hb]
      refine ⟨KeepP.put_ (by unfold AS.live; rw [hm]; simp) _, _, hw.put hm _, Fol.put _ _ _, ?_⟩
      have e1 : ((xs ++ sp).toArray.toList.take (n * i.size) ++ news ++ (xs ++ sp).toArray.toList.drop (n * i.size + news.length)) = (xs ++ news) ++ sp.drop news.length := by
        rw [hi3, ← hxl]
        simp only [List.take_left, List.append_assoc]
        rw [← List.drop_drop, List.drop_left]
      rw [e1]
      refine hk _ _ (.inr ⟨g, cap, sp.drop news.length, rfl, by rw [put_eq, hm]; rfl, by rw [List.length_append, hxl, hl, Nat.add_mul], ?_, hroom, hcm⟩) ((Chg.refl _ _).put (.inl (by simp [ownL])) _) (fun g' hg' => .inl (by simpa [ownL] using hg'))
      have h2 : (n + m) * sz ≤ cap * sz := Nat.mul_le_mul_right _ hroom
      rw [Nat.add_mul] at h2
      simp only [List.length_append, List.length_drop, hxl, hl] at hcl ⊢
      omega
    · have holds : ∀ j u, xs[j]? = some u → w.cell? ((⟨g, 0, none⟩ : Addr).add j) = some u := fun j u hu => by
        rw [E.add_eq, cel hb, List.getElem?_append_left (by have := (List.getElem?_eq_some_iff.1 hu).1; omega), Nat.zero_add]; exact hu
      have hr := run_append_grow (P := P) w t 0 e i z ht hi1 hi2 ⟨g, 0, none⟩ n cap xs (by rw [hxl, hi3]) holds ⟨b, o, none⟩ m c news (by rw [hl, hi3]) hcell (by omega) (by omega) (growslice_fits (by omega) (by rw [hi4]; exact hlen))
      exact ⟨_, _, hr, grown cap (by omega) hxl (fun _ _ => trivial) _ rfl⟩
theorem put_out (hw : Sat σ w) {g : Nat} {l l' : List Value} (hb : σ.m g = some (.cells l)) {v : Value} (hk : k v (σ.put g (.cells l'))) : Out σ w k v (put w g l') :=
  ⟨KeepP.put_ (by unfold AS.live; rw [hb]; simp) _, _, hw.put hb _, Fol.put _ _ _, hk⟩
theorem cpy_row {t u e g o n c b o2 m c2 : Nat} {l news : List Value} (ht : P.underlying t = some (.slice e)) (hi : szOf P e = some sz) (hb : σ.m g = some (.cells l)) (hn : ldsS σ b o2 (Nat.min m n * sz) = some news) (h1 : news.all okCell = true) (hfit : o + news.length ≤ l.length)
    (hk : k (.int .i64 (Nat.min m n)) (σ.put g (.cells (l.take o ++ news ++ l.drop (o + news.length))))) : kCpy P t u (.slice (some ⟨g, o, none⟩) n c) (.slice (some ⟨b, o2, none⟩) m c2) σ k := by
  intro w hw
  have hb' : blk w g = some l := hw.m g _ hb
  obtain ⟨ty, hty⟩ := blk_some hb'
  have hlds := lds_run (P := P) (w := w) ⟨b, o2, none⟩ (Nat.min m n * sz) 0 news #[] (hw.lds (a := ⟨b, o2, none⟩) rfl (i := 0) hn)
  have hst := run_storeCells_at P g o ty news 0 l.toArray w hty (by simpa using hfit) (fun v hv => by rw [okCell_eq]; exact List.all_eq_true.1 h1 v hv)
  simp only [Nat.add_zero] at hst
  rw [put_row hb'] at hst
  refine ⟨_, _, ?_, put_out hw hb hk⟩
  simp only [Builtin.copy_, Sem.run_bind, List.getElem?_toArray, List.getElem?_cons_zero, List.getElem?_cons_succ, run_underlying ht, Result.andThen_ok, Builtin.lenOf, Sem.run_pure, szOf_run hi, Builtin.firstCells, loadCells, hlds]
  simp only [Array.empty_append, hst, Result.andThen_ok, goInt]
end
end Go.Proofs.YtdlimikcgdgfpaaGreatDoor.E
namespace Go.Proofs.YtdlimikcgdgfpaaGreatDoor.E
open Go.RowKit Go.WideShapes
abbrev Ce := Nat → Nat → Option Value
def Ce.le (c c' : Ce) : Prop := ∀ b o v, c b o = some v → c' b o = some v
theorem Ce.le_refl (c : Ce) : c.le c := fun _ _ _ h => h
theorem Ce.le_trans {a b c : Ce} (h : a.le b) (k : b.le c) : a.le c := fun x y v e => k _ _ _ (h x y v e)
def start (w : World) : AS := ⟨fun _ => none, fun b o => w.cell? ⟨b, o, none⟩, size w, fun g h => absurd rfl h, fun b o h => by
  refine ⟨?_, rfl⟩
  cases hc : w.cell? ⟨b, o, none⟩ with
  | none => exact (h hc).elim
  | some v => exact block_lt_of_cell hc⟩
theorem KeepP.below {w w' : World} (h : KeepP (fun _ => False) w w') : Below w.heap.size w w' := ⟨h.os, h.tape, h.output, h.sz, fun k hk => h.heap k hk (fun h => h)⟩
abbrev Str := List UInt8
class Rp (α : Type) where
  sz : Nat
  pos : 0 < sz
  rp : Ce → α → List Value → Prop
  len : ∀ {c a cs}, rp c a cs → cs.length = sz
  ok : ∀ {c a cs}, rp c a cs → cs.all okCell = true
  mono : ∀ {c c' a cs}, Ce.le c c' → rp c a cs → rp c' a cs
open Rp
def inI64 (n : Int) : Prop := -9223372036854775808 ≤ n ∧ n ≤ 9223372036854775807
instance : Rp Int := ⟨1, by decide, fun _ n cs => cs = [.int .i64 n] ∧ inI64 n, fun h => by rw [h.1]; rfl, fun h => by rw [h.1]; rfl, fun _ h => h⟩
instance : Rp UInt8 := ⟨1, by decide, fun _ n cs => cs = [.int .u8 n.toNat], fun h => by rw [h]; rfl, fun h => by rw [h]; rfl, fun _ h => h⟩
instance : Rp Bool := ⟨1, by decide, fun _ b cs => cs = [.bool b], fun h => by rw [h]; rfl, fun h => by rw [h]; rfl, fun _ h => h⟩
instance (priority := high) : Rp Str := ⟨1, by decide, fun _ s cs => cs = [.string (bs s)] ∧ List.length s ≤ maxLen, fun h => by rw [h.1]; rfl, fun h => by rw [h.1]; rfl, fun _ h => h⟩
instance {α β : Type} [Rp α] [Rp β] : Rp (α × β) := ⟨sz α + sz β, by have := pos (α := α); omega, fun c a cs => ∃ x y, cs = x ++ y ∧ rp c a.1 x ∧ rp c a.2 y,
  fun ⟨x, y, h, h1, h2⟩ => by rw [h, List.length_append, len h1, len h2], fun ⟨x, y, h, h1, h2⟩ => by rw [h, List.all_append, ok h1, ok h2]; rfl, fun hc ⟨x, y, h, h1, h2⟩ => ⟨x, y, h, mono hc h1, mono hc h2⟩⟩
def Row {α : Type} [Rp α] (c : Ce) (b o : Nat) (l : List α) : Prop := ∀ i (h : i < l.length), ∃ cs, rp c l[i] cs ∧ ∀ j v, cs[j]? = some v → c b (o + i * sz α + j) = some v
def RepL {α : Type} [Rp α] (c : Ce) (v : Value) (l : List α) : Prop := ∃ a cap, v = .slice a l.length cap ∧ l.length ≤ cap ∧ cap ≤ maxLen ∧ (l = [] ∨ ∃ b o, a = some ⟨b, o, none⟩ ∧ Row c b o l)
theorem Row.mono {α : Type} [Rp α] {c c' : Ce} {b o : Nat} {l : List α} (hc : c.le c') (h : Row c b o l) : Row c' b o l := fun i hi => by
  obtain ⟨cs, h1, h2⟩ := h i hi
  exact ⟨cs, Rp.mono hc h1, fun j v hv => hc _ _ _ (h2 j v hv)⟩
theorem RepL.mono {α : Type} [Rp α] {c c' : Ce} {v : Value} {l : List α} (hc : c.le c') (h : RepL c v l) : RepL c' v l := by
  obtain ⟨a, cap, h1, h2, h3, h4⟩ := h
  refine ⟨a, cap, h1, h2, h3, ?_⟩
  rcases h4 with h4 | ⟨b, o, h5, h6⟩
  · exact .inl h4
  · exact .inr ⟨b, o, h5, h6.mono hc⟩
instance {α : Type} [Rp α] : Rp (List α) := ⟨1, by decide, fun c l cs => ∃ v, cs = [v] ∧ RepL c v l, fun ⟨v, h, _⟩ => by rw [h]; rfl, fun ⟨v, h, h2⟩ => by
    obtain ⟨a, cap, h3, _⟩ := h2
    rw [h, h3]; rfl, fun hc ⟨v, h, h2⟩ => ⟨v, h, h2.mono hc⟩⟩
inductive Sh where
  | any | int (k : IntKind) | bool | str | slice (e : Sh) (sz : Nat) | fld (n : Nat) (s r : Sh) | fin
def consec (P : Program) (total : Nat) : Nat → List Field → Bool
  | o, [] => o == total
  | o, f :: r => f.offset == o && consec P total (o + P.cellsOf f.type) r
def shOf (P : Program) : Nat → TypeId → Sh
  | 0, _ => .any
  | n + 1, t =>
    match P.underlying t with
    | some .bool => .bool
    | some (.int k) => .int k
    | some .string => .str
    | some (.slice e) => if 0 < P.cellsOf e then .slice (shOf P n e) (P.cellsOf e) else .any
    | some (.struct fs) => if consec P (P.cellsOf t) 0 fs.toList then fs.toList.foldr (fun f r => .fld (P.cellsOf f.type) (shOf P n f.type) r) .fin else .any
    | some (.array m e) => if m * P.cellsOf e = P.cellsOf t ∧ m ≤ 64 then (List.replicate m e).foldr (fun e r => .fld (P.cellsOf e) (shOf P n e) r) .fin else .any
    | _ => .any
def Arr (c : Ce) (a : Option Addr) (n sz : Nat) (f : Nat → List Value) : Prop :=
  n = 0 ∨ ∃ b o, a = some ⟨b, o, none⟩ ∧ ∀ i, i < n → ∀ j v, (f i)[j]? = some v → c b (o + i * sz + j) = some v
def RD (c : Ce) : Sh → List Value → Prop
  | .any, _ => True
  | .int k, cs => ∃ n, cs = [.int k n] ∧ (Lit.int k n).wf = true
  | .bool, cs => ∃ b, cs = [.bool b]
  | .str, cs => ∃ l, cs = [.string (bs l)] ∧ l.length ≤ maxLen
  | .slice e sz, cs => ∃ a n cap f, cs = [.slice a n cap] ∧ n ≤ cap ∧ cap ≤ maxLen ∧ Arr c a n sz f ∧ ∀ i, i < n → (f i).length = sz ∧ RD c e (f i)
  | .fld n s r, cs => ∃ x y, cs = x ++ y ∧ x.length = n ∧ RD c s x ∧ RD c r y
  | .fin, cs => cs = []
def OV (c : Ce) (s : Sh) (v : Value) : Prop := match s with
  | .any => True
  | .fld n s r => ∃ cs, v = .agg cs.toArray ∧ RD c (.fld n s r) cs
  | .fin => ∃ cs, v = .agg cs.toArray ∧ RD c .fin cs
  | s => RD c s [v]
section
variable {H : Type} {enc : TypeId × Value → H} {P : Program} {w w' : World} {base : Nat} {spare : Nat → Bool} {held : Bool}
theorem arr_of_cells {a : Addr} {n sz : Nat} {g : Nat → List Value} (h : ∀ i, i < n → w.cells? base (a.add (i * sz)) sz = some (g i)) (hsz : 0 < sz) : Arr (start w).c (some a) n sz g ∧ ∀ i, i < n → (g i).length = sz := by
  have hlen : ∀ i, i < n → (g i).length = sz := by
    intro i hi
    exact (World.cells?_some (h i hi)).2.1
  refine ⟨?_, hlen⟩
  rcases Nat.eq_zero_or_pos n with h0 | h0
  · exact .inl h0
  · have h1 := (World.cells?_some (h 0 h0)).2.2 0 hsz
    have hg : ∃ v, (g 0)[0]? = some v := ⟨(g 0)[0]'(by rw [hlen 0 h0]; exact hsz), by simp⟩
    obtain ⟨v, hv⟩ := hg
    rw [hv] at h1
    have hx : (a.add (0 * sz)).add 0 = a := by unfold Addr.add; simp
    rw [hx] at h1
    have hsp : a.spot = none := by
      cases hs : a.spot with
      | none => rfl
      | some s =>
        unfold World.cell? at h1
        rw [hs] at h1
        split at h1 <;> simp at h1
    have hxe : a = ⟨a.block, a.off, none⟩ := by cases a; simp_all
    refine .inr ⟨a.block, a.off, by rw [← hxe], ?_⟩
    intro i hi j v hv
    have hj : j < sz := by
      have := (List.getElem?_eq_some_iff.1 hv).1
      rwa [hlen i hi] at this
    have := (World.cells?_some (h i hi)).2.2 j hj
    rw [hxe, add_eq, add_eq, hv] at this
    exact this
theorem rd_of_trod : ∀ (n : Nat) (t : TypeId) (fuel : Nat) (cs : List Value) (x : DataW H × List MemPlace), DataW.trod enc P w base spare held fuel t cs = some x → RD (start w).c (shOf P n t) cs
  | 0, _, _, _, _, _ => trivial
  | n + 1, t, fuel, cs, x, h => by
    unfold shOf
    split
    · rename_i ht
      obtain ⟨b, hb, _⟩ := DataW.trod_bool ht h
      exact ⟨b, hb⟩
    · rename_i k ht
      obtain ⟨m, hm, _, hw⟩ := DataW.trod_int ht h
      exact ⟨m, hm, hw⟩
    · rename_i ht
      obtain ⟨s, hs, _, hl⟩ := DataW.trod_string ht h
      exact ⟨s.data.toList, by rw [hs, ← bs_of], by simpa [ByteArray.size_data] using hl⟩
    · rename_i e ht
      split
      rotate_left
      · trivial
      rename_i h0
      rcases DataW.trod_slice ht h with ⟨hcs, _⟩ | ⟨a, len, cap, elems, rest, m, _, hcs, _, _, hl, hc, hel, hall, _⟩
      · exact ⟨none, 0, 0, fun _ => [], hcs, Nat.le_refl _, Nat.zero_le _, .inl rfl, fun i hi => by omega⟩
      · have hget : ∀ i, i < len → ∃ c y, w.cells? base (a.add (i * P.cellsOf e)) (P.cellsOf e) = some c ∧ DataW.trod enc P w base spare held m e c = some y := by
          intro i hi
          have h1 := hall i hi
          have h2 : ∃ y, elems[i]? = some y := ⟨elems[i]'(by omega), by simp⟩
          obtain ⟨y, hy⟩ := h2
          rw [hy, Option.bind_eq_some_iff] at h1
          obtain ⟨c, hc1, hc2⟩ := h1
          exact ⟨c, y, hc1, hc2⟩
        have hg : ∀ i, i < len → w.cells? base (a.add (i * P.cellsOf e)) (P.cellsOf e) = some ((w.cells? base (a.add (i * P.cellsOf e)) (P.cellsOf e)).getD []) := by
          intro i hi
          obtain ⟨c, y, h1, _⟩ := hget i hi
          rw [h1]; rfl
        have hrd : ∀ i, i < len → RD (start w).c (shOf P n e) ((w.cells? base (a.add (i * P.cellsOf e)) (P.cellsOf e)).getD []) := by
          intro i hi
          obtain ⟨c, y, h1, h2⟩ := hget i hi
          rw [h1]
          exact rd_of_trod n e m c y h2
        obtain ⟨h1, h2⟩ := arr_of_cells hg h0
        exact ⟨some a, len, cap, _, hcs, hl, hc, h1, fun i hi => ⟨h2 i hi, hrd i hi⟩⟩
    · rename_i fs ht
      split
      · rename_i hc
        obtain ⟨xs, m, _, _, hl, hxl, hall⟩ := DataW.trod_struct ht h
        have key : ∀ (l : List Field) (o : Nat) (cs' : List Value), consec P (P.cellsOf t) o l = true → cs' = cs.drop o → (∀ f ∈ l, ∃ y, DataW.trod enc P w base spare held m f.type ((cs.drop f.offset).take (P.cellsOf f.type)) = some y) →
            RD (start w).c (l.foldr (fun f r => .fld (P.cellsOf f.type) (shOf P n f.type) r) .fin) cs' := by
          intro l
          induction l with
          | nil =>
            intro o cs' hc he _
            simp only [consec, beq_iff_eq] at hc
            subst hc
            rw [he, List.drop_eq_nil_of_le (by omega)]
            rfl
          | cons f r ih =>
            intro o cs' hc he hf
            simp only [consec, Bool.and_eq_true, beq_iff_eq] at hc
            obtain ⟨y, hy⟩ := hf f (by simp)
            subst he
            rw [hc.1] at hy
            have hle : ∀ (l : List Field) (o : Nat), consec P (P.cellsOf t) o l = true → o ≤ P.cellsOf t := by
              intro l
              induction l with
              | nil => intro o h; simp only [consec, beq_iff_eq] at h; omega
              | cons f r ih => intro o h; simp only [consec, Bool.and_eq_true] at h; have := ih _ h.2; omega
            have h2 := hle r _ hc.2
            refine ⟨(cs.drop o).take (P.cellsOf f.type), (cs.drop o).drop (P.cellsOf f.type), (List.take_append_drop _ _).symm, by simp; omega, rd_of_trod n _ _ _ _ hy, ?_⟩
            exact ih (o + P.cellsOf f.type) _ hc.2 (by rw [List.drop_drop]) (fun f' hf' => hf f' (by simp [hf']))
        refine key fs.toList 0 cs hc (by simp) ?_
        intro f hf
        obtain ⟨i, hi, rfl⟩ := List.getElem_of_mem hf
        have hi' : i < fs.size := by simpa using hi
        have := hall i fs[i] (by simp [hi'])
        exact ⟨xs[i]'(by omega), by simpa [hi', hxl] using this⟩
      · trivial
    · rename_i m0 e ht
      split
      · rename_i hc
        obtain ⟨hc, _⟩ := hc
        obtain ⟨xs, m, _, _, hl, hxl, hall⟩ := DataW.trod_array ht h
        have key : ∀ (k i : Nat) (cs' : List Value), i + k = m0 → cs' = cs.drop (i * P.cellsOf e) →
            RD (start w).c ((List.replicate k e).foldr (fun e r => .fld (P.cellsOf e) (shOf P n e) r) .fin) cs' := by
          intro k
          induction k with
          | zero =>
            intro i cs' hi he
            obtain rfl : i = m0 := by omega
            show cs' = []
            rw [he, List.drop_eq_nil_of_le (by omega)]
          | succ k ih =>
            intro i cs' hi he
            subst he
            have h1 := hall i (by omega)
            rw [List.getElem?_eq_getElem (by omega)] at h1
            have h2 : i * P.cellsOf e + P.cellsOf e ≤ cs.length := by
              rw [hl, ← hc]
              have : (i + 1) * P.cellsOf e ≤ m0 * P.cellsOf e := Nat.mul_le_mul_right _ (by omega)
              rw [Nat.succ_mul] at this
              exact this
            refine ⟨(cs.drop (i * P.cellsOf e)).take (P.cellsOf e), (cs.drop (i * P.cellsOf e)).drop (P.cellsOf e), (List.take_append_drop _ _).symm, by rw [List.length_take, List.length_drop]; omega, rd_of_trod n _ _ _ _ h1, ?_⟩
            exact ih (i + 1) _ (by omega) (by rw [List.drop_drop, Nat.succ_mul])
        exact key m0 0 cs (by omega) (by simp)
      · trivial
    · trivial
theorem ov_of {r : Reach} {b0 : Nat} {t : TypeId} {v : Value} {d : DataW H} {ps : List MemPlace} (n : Nat) (hval : Value.okWide P w r b0 t v) (h : DataW.Trod enc P w base spare held t v d ps) : OV (start w).c (shOf P n t) v := by
  obtain ⟨fuel, hf⟩ := h
  have h1 := rd_of_trod n t fuel _ _ hf
  cases n with
  | zero => trivial
  | succ n =>
    unfold shOf at h1 ⊢
    split at h1
    · rename_i ht; obtain ⟨b, rfl⟩ := okWide_bool ht hval; exact h1
    · rename_i k ht; obtain ⟨b, rfl⟩ := okWide_int ht hval; exact h1
    · rename_i ht; obtain ⟨b, rfl⟩ := okWide_string ht hval; exact h1
    · rename_i e ht; obtain ⟨a, b, c, rfl⟩ := okWide_slice ht hval; split at h1
      · rename_i hc; rw [if_pos hc]; exact h1
      · rename_i hc; rw [if_neg hc]; trivial
    · rename_i fs ht
      obtain ⟨cs, rfl, _⟩ := okWide_struct ht hval
      split at h1
      · rename_i hc
        rw [if_pos hc]
        have e : (Value.agg cs).cells.toList = cs.toList := rfl
        rw [e] at h1
        cases hfs : fs.toList with
        | nil => rw [hfs] at h1; exact ⟨cs.toList, by simp, h1⟩
        | cons f r => rw [hfs] at h1; exact ⟨cs.toList, by simp, h1⟩
      · rename_i hc; rw [if_neg hc]; trivial
    · rename_i m0 e ht
      have hval' := hval
      simp only [Value.okWide, ht] at hval'
      obtain ⟨cs, rfl, _⟩ := hval'
      split at h1
      · rename_i hc
        rw [if_pos hc]
        have e' : (Value.agg cs).cells.toList = cs.toList := rfl
        rw [e'] at h1
        cases m0 with
        | zero => exact ⟨cs.toList, by simp, h1⟩
        | succ m0 => exact ⟨cs.toList, by simp, h1⟩
      · rename_i hc; rw [if_neg hc]; trivial
    · trivial
end
class OfSh (α : Type) [Rp α] (s : Sh) : Prop where
  of : ∀ {c cs}, RD c s cs → ∃ a : α, rp c a cs
theorem wf_i64 {n : Int} (h : (Lit.int .i64 n).wf = true) : inI64 n := by
  simp [Lit.wf, IntKind.min, IntKind.max, IntKind.signed, IntKind.bits] at h
  unfold inI64; omega
theorem wf_u8 {n : Int} (h : (Lit.int .u8 n).wf = true) : 0 ≤ n ∧ n ≤ 255 := by
  simp [Lit.wf, IntKind.min, IntKind.max, IntKind.signed, IntKind.bits] at h
  omega
instance : OfSh Int (.int .i64) := ⟨fun ⟨n, h, hw⟩ => ⟨n, h, wf_i64 hw⟩⟩
instance : OfSh UInt8 (.int .u8) := ⟨fun ⟨n, h, hw⟩ => ⟨UInt8.ofNat n.toNat, by
  have := wf_u8 hw
  show _ = [Value.int .u8 (UInt8.ofNat n.toNat).toNat]
  have e : (((UInt8.ofNat n.toNat).toNat : Nat) : Int) = n := by simp; omega
  rw [h, e]⟩⟩
instance : OfSh Bool .bool := ⟨fun ⟨b, h⟩ => ⟨b, h⟩⟩
instance : OfSh Str .str := ⟨fun ⟨l, h, hl⟩ => ⟨l, h, hl⟩⟩
instance ofLast {α : Type} [Rp α] {n : Nat} {s : Sh} [h : OfSh α s] : OfSh α (.fld n s .fin) := ⟨fun ⟨x, y, h1, _, h3, h4⟩ => by
  have h4 : y = [] := h4
  subst h4
  rw [h1, List.append_nil]
  exact h.of h3⟩
instance ofPair {α β : Type} [Rp α] [Rp β] {n : Nat} {s r : Sh} [h : OfSh α s] [k : OfSh β r] : OfSh (α × β) (.fld n s r) := ⟨fun ⟨x, y, h1, _, h3, h4⟩ => by
  obtain ⟨a, ha⟩ := h.of h3
  obtain ⟨b, hb⟩ := k.of h4
  exact ⟨(a, b), x, y, h1, ha, hb⟩⟩
class SzIs (α : Type) [Rp α] (m : outParam Nat) : Prop where
  h : sz α = m
instance : SzIs Int 1 := ⟨rfl⟩
instance : SzIs UInt8 1 := ⟨rfl⟩
instance : SzIs Bool 1 := ⟨rfl⟩
instance : SzIs Str 1 := ⟨rfl⟩
instance {α : Type} [Rp α] : SzIs (List α) 1 := ⟨rfl⟩
instance {α β : Type} [Rp α] [Rp β] {m n : Nat} [h : SzIs α m] [k : SzIs β n] : SzIs (α × β) (m + n) := ⟨by show sz α + sz β = _; rw [h.h, k.h]⟩
theorem list_of {α : Type} {n : Nat} {p : Nat → α → Prop} (h : ∀ i, i < n → ∃ a, p i a) : ∃ l : List α, l.length = n ∧ ∀ i (hi : i < l.length), p i l[i] := by
  induction n with
  | zero => exact ⟨[], rfl, fun i hi => by simp at hi⟩
  | succ n ih =>
    obtain ⟨l, hl, hp⟩ := ih (fun i hi => h i (by omega))
    obtain ⟨a, ha⟩ := h n (by omega)
    refine ⟨l ++ [a], by simp [hl], fun i hi => ?_⟩
    by_cases e : i < l.length
    · rw [List.getElem_append_left e]; exact hp i e
    · simp at hi
      have : i = n := by omega
      subst this
      rw [List.getElem_append_right (by omega)]
      simpa [hl] using ha
instance ofSlice {α : Type} [Rp α] {e : Sh} {m : Nat} [h : OfSh α e] [hm : SzIs α m] : OfSh (List α) (.slice e m) := ⟨fun ⟨a, n, cap, f, h1, h2, h3, h4, h5⟩ => by
  obtain ⟨l, hl, hp⟩ := list_of (n := n) (p := fun i x => rp _ x (f i)) (fun i hi => h.of (h5 i hi).2)
  refine ⟨l, _, h1, a, cap, by rw [hl], by omega, h3, ?_⟩
  rcases h4 with h4 | ⟨b, o, h6, h7⟩
  · exact .inl (List.eq_nil_of_length_eq_zero (by omega))
  · exact .inr ⟨b, o, h6, fun i hi => ⟨f i, hp i hi, fun j v hv => by rw [hm.h]; exact h7 i (by omega) j v hv⟩⟩⟩
theorem arg_list {α : Type} [Rp α] {c : Ce} {v : Value} {e : Sh} {m : Nat} [OfSh α e] [SzIs α m] (h : OV c (.slice e m) v) : ∃ l : List α, RepL c v l := by
  obtain ⟨l, u, h1, h2⟩ := OfSh.of (α := List α) (s := .slice e m) h
  injection h1 with h1
  subst h1
  exact ⟨l, h2⟩
theorem arg_str {c : Ce} {v : Value} (h : OV c .str v) : ∃ l, v = .string (bs l) ∧ l.length ≤ maxLen := by
  obtain ⟨l, h1, h2⟩ := h
  injection h1 with h1
  exact ⟨l, h1, h2⟩
end Go.Proofs.YtdlimikcgdgfpaaGreatDoor.E
namespace Go.Proofs.YtdlimikcgdgfpaaGreatDoor.E
open Go.RowKit Go.Lib
def OwnT (σ : AS) (e : TypeId) (v : Value) (t : List UInt8) : Prop :=
  (v = .slice none 0 0 ∧ t = []) ∨
  ∃ g c sp, v = .slice (some ⟨g, 0, none⟩) t.length c ∧ σ.m g = some (.typed e (byteCells t ++ sp)) ∧ t.length + sp.length = c ∧ 0 < c ∧ c ≤ maxLen
section
variable {P : Program} {a b σ σ' : AS} {w : World} {k : Value → AS → Prop} {S T : List Nat} {v : Value} {e : TypeId} {t s : List UInt8}
theorem OwnT.nil (σ : AS) (e : TypeId) : OwnT σ e (.slice none 0 0) [] := .inl ⟨rfl, rfl⟩
theorem OwnT.lt (h : OwnT σ e v t) {g : Nat} (hg : g ∈ ownL v) : g < σ.n := by
  rcases h with ⟨rfl, _⟩ | ⟨g', c, sp, rfl, hm, _⟩
  · simp [ownL] at hg
  · simp [ownL] at hg
    subst hg
    exact σ.lt hm
theorem OwnT.chg (h : OwnT σ e v t) (k : Chg S σ σ') (hn : ∀ g, g ∈ ownL v → g ∉ S) : OwnT σ' e v t := by
  rcases h with h | ⟨g, c, sp, rfl, hm, r⟩
  · exact .inl h
  · exact .inr ⟨g, c, sp, rfl, (k.m g (σ.lt hm) (hn g (by simp [ownL]))).trans hm, r⟩
theorem OwnT.val (h : OwnT σ e v t) : ∃ x c, v = .slice x t.length c ∧ t.length ≤ c := by
  rcases h with ⟨rfl, rfl⟩ | ⟨g, c, sp, rfl, _, hc, _⟩
  · exact ⟨none, 0, rfl, Nat.le_refl _⟩
  · exact ⟨_, c, rfl, by omega⟩
theorem OwnT.ok (h : OwnT σ e v t) : okCell v = true := by
  rcases h with ⟨rfl, rfl⟩ | ⟨g, c, sp, rfl, _⟩ <;> rfl
theorem OwnV.ok {n sz : Nat} {xs : List Value} (h : OwnV σ v n sz xs) : okCell v = true := by
  rcases h with ⟨rfl, _⟩ | ⟨g, c, sp, rfl, _⟩ <;> rfl
theorem Chg.wide (h : Chg S a σ) (hT : ∀ i, i ∈ S → i ∈ T) : Chg T a σ := ⟨h.n, fun g hg hn => h.m g hg (fun hs => hn (hT g hs)), h.c⟩
def byteB (P : Program) (e : TypeId) : Bool :=
  match P.info? e with
  | some i => i.size == 1 && i.bytes == 1 && (match i.zero with | some (.int .u8 0) => true | _ => false)
  | none => false
theorem byteB_ok (h : byteB P e = true) : ∃ i, P.info? e = some i ∧ i.zero = some (.int .u8 0) ∧ i.size = 1 ∧ i.bytes = 1 := by
  unfold byteB at h
  split at h
  · rename_i i hi
    simp only [Bool.and_eq_true, beq_iff_eq] at h
    refine ⟨i, hi, ?_, h.1.1, h.1.2⟩
    obtain ⟨_, h2⟩ := h
    split at h2
    · assumption
    · cases h2
  · cases h
theorem strCells_bs (s : List UInt8) : strCells (bs s) = byteCells s := by simp [strCells, byteCells, bs]
theorem sat_grown (hw : Sat σ w) (news : List Value) (e : TypeId) (n old : Nat) : Sat (σ.new (.typed e (news ++ (Builtin.zeroCells (Value.int .u8 0).cells (grownCap w n old e - n)).toList))) (w.drew.alloc (.cells (news.toArray ++ Builtin.zeroCells (Value.int .u8 0).cells (grownCap w n old e - n)) e)) := by
  refine hw.drew.new_ (ob := .typed e _) (fun w' he => ?_)
  show w'.heap[σ.n]? = _
  rw [he]
  congr 2
  apply Array.toList_inj.1
  simp
theorem appS_by {tt u : TypeId} (ht : P.underlying tt = some (.slice e)) (hu : P.underlying u = some .string) (hi : byteB P e = true) (hown : OwnT σ e v t) (hlen : t.length + s.length ≤ 140737488355328)
    (hk : ∀ v' σ', OwnT σ' e v' (t ++ s) → Chg (ownL v) σ σ' → (∀ g, g ∈ ownL v' → g ∈ ownL v ∨ g = σ.n) → k v' σ') : kApp P tt u v (.string (bs s)) σ k := by
  obtain ⟨i, hi1, hi2, hi3, hi4⟩ := byteB_ok hi
  intro w hw
  have hz : w.heap.size = σ.n := hw.sz
  have hmx : ∀ n, n ≤ 140737488355328 → n ≤ maxLen := fun n h => by unfold maxLen; omega
  have grown : ∀ old, old < t.length + s.length →
      Out σ w k (.slice (some ⟨w.heap.size, 0, none⟩) (t.length + s.length) (grownCap w (t.length + s.length) old e)) (w.drew.alloc (.cells ((byteCells (t ++ s)).toArray ++ Builtin.zeroCells (Value.int .u8 0).cells (grownCap w (t.length + s.length) old e - (t.length + s.length))) e)) := by
    intro old ho
    have hge := grownCap_ge w (t.length + s.length) old e
    have hcm : grownCap w (t.length + s.length) old e ≤ maxLen := grownCap_le_maxLen w (t.length + s.length) old e (hmx _ hlen)
    refine ⟨KeepP.drew_alloc _ _ _, _, sat_grown hw (byteCells (t ++ s)) e _ old, Fol.new _ _, ?_⟩
    rw [hz]
    refine hk _ _ (.inr ⟨σ.n, _, _, by rw [List.length_append], by rw [new_eq_], ?_, by omega, hcm⟩) ((Chg.refl _ _).new _) (fun g hg => .inr (by simpa [ownL] using hg))
    have hz1 : (Value.int IntKind.u8 0).cells.size = 1 := rfl
    simp only [List.length_append, Array.length_toList, size_zeroCells, hz1]
    omega
  rcases hown with ⟨rfl, rfl⟩ | ⟨g, cap, sp, rfl, hm, hcl, hc0, hcm⟩
  · by_cases h0 : s = []
    · subst h0
      refine ⟨.slice none 0 0, w, ?_, KeepP.refl _ _, σ, hw, Fol.refl _, hk _ _ (.inl ⟨rfl, rfl⟩) (Chg.refl _ _) (fun g hg => .inl hg)⟩
      have hf := run_firstCells_string (P := P) w 1 (bs [])
      have hs0 : (bs []).size = 0 := rfl
      rw [hs0] at hf
      simp [Builtin.append_, run_underlying ht, run_underlying hu, sizeOf, typeInfo, hi1, hi3, Builtin.lenOf, hs0, hf]
    · have hp : 0 < s.length := by cases s with | nil => exact absurd rfl h0 | cons => simp
      have hr := run_append_nil_string (P := P) w tt u 0 e i (.int .u8 0) ht hu hi1 hi2 (bs s) (by rw [bs_size]; exact hp) (by rw [bs_size]; simp only [List.length_nil] at hlen; omega) (by rw [bs_size, hi4]; simp only [List.length_nil] at hlen; omega)
      have hg := grown 0 (by simp only [List.length_nil]; omega)
      simp only [List.length_nil, Nat.zero_add, List.nil_append] at hg
      have e1 : ((bs s).data.map fun b => Value.int .u8 b.toNat) = (byteCells s).toArray := by
        apply Array.ext'
        simp [byteCells, bs]
      rw [bs_size, e1] at hr
      exact ⟨_, _, hr, hg⟩
  · have hh : w.heap[g]? = some (.cells (byteCells t ++ sp).toArray e (0, 0)) := hw.m g _ hm
    have hb := hw.blkT hm
    by_cases hroom : t.length + s.length ≤ cap
    · have hr := run_append_room_string (P := P) w tt u 0 e i ht hu hi1 hi3 g t.length cap _ hh (bs s) (by rw [bs_size]; exact hroom) (by rw [bs_size, List.size_toArray, List.length_append, byteCells_length]; omega)
      rw [bs_size, strCells_bs, put_row hb] at hr
      refine ⟨_, _, hr, KeepP.put_ (by unfold AS.live; rw [hm]; simp) _, _, hw.putT hm _, Fol.put _ _ _, ?_⟩
      have e1 : (byteCells t ++ sp).toArray.toList.take t.length ++ byteCells s ++ (byteCells t ++ sp).toArray.toList.drop (t.length + s.length) = byteCells (t ++ s) ++ sp.drop s.length := by
        have : t.length = (byteCells t).length := (byteCells_length t).symm
        rw [this, ← List.drop_drop]
        simp only [List.take_left, List.drop_left, byteCells_append]
      rw [e1]
      refine hk _ _ (.inr ⟨g, cap, sp.drop s.length, by rw [List.length_append], by rw [put_eq, hm]; rfl, ?_, hc0, hcm⟩) ((Chg.refl _ _).put (.inl (by simp [ownL])) _) (fun g' hg' => .inl (by simpa [ownL] using hg'))
      simp only [List.length_append, List.length_drop]
      omega
    · have holds : ∀ j u, (byteCells t)[j]? = some u → w.cell? ((⟨g, 0, none⟩ : Addr).add j) = some u := fun j u hu => by
        rw [E.add_eq, cel hb, List.getElem?_append_left (by have := (List.getElem?_eq_some_iff.1 hu).1; omega), Nat.zero_add]; exact hu
      have hr := run_append_grow_string (P := P) w tt u 0 e i (.int .u8 0) ht hu hi1 hi2 ⟨g, 0, none⟩ t.length cap (byteCells t) (by rw [hi3, byteCells_length, Nat.mul_one]) holds (bs s) (by rw [bs_size]; omega) (by rw [bs_size]; omega) (by rw [bs_size]; exact growslice_fits (by omega) (by rw [hi4]; omega))
      have hg := grown cap (by omega)
      rw [bs_size, strCells_bs] at hr
      rw [byteCells_append, ← List.append_toArray] at hg
      exact ⟨_, _, hr, hg⟩
def extB (P : Program) (f : FuncId) : Bool := match P.funcs[f]? with
  | some fn => !(fn.name == "runtime.NumGoroutine") && fn.body.isNone && (Extern.findNext fn).isNone
  | none => false
theorem ext_by {f : FuncId} {e : Array Value → Sem Value} {args : List Value} {v : Value} (h : extB P f = true) (he : (P.funcs[f]?).bind Extern.find = some e) (hr : ∀ w, (e args.toArray).run P w = .ok v w) (hk : k v σ) : kGen P (.ext f) args σ k := by
  intro w hw
  unfold extB at h
  split at h
  · rename_i fn hf
    simp only [Bool.and_eq_true, Bool.not_eq_true', Option.isNone_iff_eq_none] at h
    obtain ⟨⟨h1, h2⟩, h3⟩ := h
    rw [hf, Option.bind_some] at he
    refine ⟨v, w, ?_, Out.same hw hk⟩
    simp only [lkSem, Sem.run_bind, run_callFunc_extern hf h1 (by rw [h2]; rfl) h3 he, hr w, Result.andThen_ok, Sem.run_pure]
  · cases h
theorem idx_by {f : FuncId} {c : Int} (h : extB P f = true) (he : (P.funcs[f]?).bind Extern.find = some Extern.BytealgIndexByte.indexByte) (hk : k (.int .i64 (indexByte s c.toNat.toUInt8)) σ) : kGen P (.ext f) [.string (bs s), .int .u8 c] σ k :=
  ext_by h he (fun w => run_indexByteString (bs s) c w) hk
theorem noe_by {f : FuncId} {x : Value} (h : extB P f = true) (he : (P.funcs[f]?).bind Extern.find = some Extern.AbiNoEscape.same) (hk : k x σ) : kGen P (.ext f) [x] σ k :=
  ext_by h he (fun w => run_noEscape w x) hk
def cvtB (P : Program) (src dst : TypeId) : Bool := match P.underlying src, P.underlying dst with
  | some (.pointer t), some .unsafePointer => (match P.info? t with | some j => j.size != 0 | none => false)
  | _, _ => false
theorem cvt_by {src dst T : TypeId} {g o : Nat} {L : List Value} (h : cvtB P src dst = true) (hm : σ.m g = some (.typed T L)) (ho : o < L.length) (hk : k (.pointer (some ⟨g, o, none⟩)) σ) : kGen P (.cv src dst) [.pointer (some ⟨g, o, none⟩)] σ k := by
  intro w hw
  unfold cvtB at h
  split at h
  · rename_i t h1 h2
    split at h
    · rename_i j hj
      have hh : w.heap[g]? = some (.cells L.toArray T (0, 0)) := hw.m g _ hm
      exact ⟨_, _, run_to_unsafe w ⟨g, o, none⟩ h1 h2 hj (by simpa using h) (e := T) (cells := L.length) (by simp [World.shape?, hh]) ho, Out.same hw hk⟩
    · cases h
  · cases h
def cvfB (P : Program) (src dst T : TypeId) (n o : Nat) : Bool := match P.underlying src, P.underlying dst with
  | some .unsafePointer, some (.pointer u) => (P.info? u).isSome && liesAt P P.depth T (n / P.cellsOf T) o u 1
  | _, _ => false
theorem cvf_by {src dst T : TypeId} {g o : Nat} {L : List Value} (h : cvfB P src dst T L.length o = true) (hm : σ.m g = some (.typed T L)) (hk : k (.pointer (some ⟨g, o, none⟩)) σ) : kGen P (.cv src dst) [.pointer (some ⟨g, o, none⟩)] σ k := by
  intro w hw
  unfold cvfB at h
  split at h
  · rename_i u h1 h2
    simp only [Bool.and_eq_true, Option.isSome_iff_exists] at h
    obtain ⟨⟨j, hj⟩, hl⟩ := h
    have hh : w.heap[g]? = some (.cells L.toArray T (0, 0)) := hw.m g _ hm
    exact ⟨_, _, run_from_unsafe w ⟨g, o, none⟩ h1 h2 hj (e := T) (cells := L.length) (by simp [World.shape?, hh]) hl, Out.same hw hk⟩
  · cases h
def neqB (P : Program) (t : TypeId) : Bool := match P.underlying t with | some (.pointer e) => (P.info? e).isSome | _ => false
theorem neq_by {t : TypeId} {x y : Operand} {p : Addr} (h : neqB P t = true) (hk : k (.bool false) σ) : kGen P (.bop .neq t x y) [.pointer (some p), .pointer (some p)] σ k := by
  intro w hw
  unfold neqB at h
  split at h
  · rename_i e h1
    simp only [Option.isSome_iff_exists] at h
    obtain ⟨j, hj⟩ := h
    refine ⟨_, _, ?_, Out.same hw hk⟩
    have hg : (eqGuard .neq t x y (.pointer (some p)) (.pointer (some p))).run P w = .ok () w := by
      simp [eqGuard]
    simp only [lkSem, Sem.run_bind, hg, Result.andThen_ok, run_neq_ptr_same w p h1 hj]
  · cases h
def dataOf : Value → Value
  | .slice (some a) _ _ => .pointer (some a)
  | _ => .pointer none
theorem usd_by {ts : List TypeId} {ty : TypeId} (hown : OwnT σ e v t) (hk : k (dataOf v) σ) : kGen P (.blt .unsafeSliceData ts ty) [v] σ k := by
  intro w hw
  rcases hown with ⟨rfl, rfl⟩ | ⟨g, cap, sp, rfl, hm, hcl, hc0, hcm⟩
  · exact ⟨_, _, run_unsafeSliceData_nil (P := P) w ts.toArray ty 0 0, Out.same hw hk⟩
  · exact ⟨_, _, run_unsafeSliceData_row (P := P) w ts.toArray ty ⟨g, 0, none⟩ t.length cap (by omega), Out.same hw hk⟩
def usB (P : Program) (pt e : TypeId) : Bool := match P.underlying pt with | some (.pointer e') => e' == e && P.cellsOf e == 1 | _ => false
theorem ust_by {pt it ty : TypeId} (h : usB P pt e = true) (hown : OwnT σ e v t) (h63 : t.length ≤ 9223372036854775807) (hk : ∀ σ', Chg (ownL v) σ σ' → k (.string (bs t)) σ') : kGen P (.blt .unsafeString [pt, it] ty) [dataOf v, .int .i64 t.length] σ k := by
  intro w hw
  have none_ : ∀ p, t = [] → ∃ v' w', (lkSem (.blt .unsafeString [pt, it] ty) [.pointer p, .int .i64 t.length]).run P w = .ok v' w' ∧ Out σ w k v' w' := by
    rintro p rfl
    exact ⟨_, _, run_unsafeString_none w pt it ty p, Out.same hw (hk σ (Chg.refl _ _))⟩
  rcases hown with ⟨rfl, h0⟩ | ⟨g, cap, sp, rfl, hm, hcl, hc0, hcm⟩
  · exact none_ _ h0
  · by_cases h0 : t = []
    · exact none_ _ h0
    · have hh : w.heap[g]? = some (.cells (byteCells t ++ sp).toArray e (0, 0)) := hw.m g _ hm
      unfold usB at h
      split at h
      · rename_i e' hp
        simp only [Bool.and_eq_true, beq_iff_eq] at h
        obtain ⟨rfl, hc⟩ := h
        have hr := run_unsafeString_row (P := P) w pt it ty e' hp hc g (byteCells t ++ sp).toArray.size (by simp [World.shape?, hh]) t h0 (by simp [byteCells_length]) h63 (fun j x hx => by
          rw [E.add_eq, cel (hw.blkT hm), Nat.zero_add, List.getElem?_append_left (by rw [byteCells_length]; exact (List.getElem?_eq_some_iff.1 hx).1)]
          simp [byteCells, hx])
        refine ⟨_, _, hr, ?_, σ.del g, ?_, ⟨Nat.le_refl _, fun k hk => .inl (fun h => hk (by
          by_cases e : k = g
          · subst e; exact del_eq
          · rw [del_ne e]; exact h))⟩, hk _ ((Chg.refl _ _).del (.inl (by simp [ownL])))⟩
        · unfold World.freeze
          split
          · exact KeepP.refl _ _
          · refine ⟨rfl, rfl, rfl, by simp [size], fun i hi hn => ?_⟩
            have : i ≠ g := by rintro rfl; exact hn (by unfold AS.live; rw [hm]; simp)
            simp only [Array.getElem?_modify]
            rw [if_neg (by intro h; exact this h.symm)]
        · unfold World.freeze
          split
          · refine hw.del g rfl (fun _ _ => rfl) (by rw [hm]; simp)
          · refine hw.del g (by simp [size]) (fun i hi => ?_) (by rw [hm]; simp)
            simp only [Array.getElem?_modify]
            rw [if_neg (by intro h; exact hi h.symm)]
      · cases h
end
end Go.Proofs.YtdlimikcgdgfpaaGreatDoor.E
namespace Go.Proofs.YtdlimikcgdgfpaaGreatDoor.E
open Go.RowKit Go.Lib
open Rp
def sans (σ : AS) (X : List Nat) : Ce := fun b o => if b ∈ X then none else σ.ld b o
section
variable {σ σ' a : AS} {S X Y : List Nat} {b o : Nat} {v : Value}
theorem ld_lt (h : σ.ld b o = some v) : b < σ.n := by
  unfold AS.ld at h
  split at h
  · rename_i l hl; exact σ.lt hl
  · cases h
  · rename_i t l hl; exact σ.lt hl
  · exact σ.ltc h
theorem Chg.ld (h : Chg S σ σ') (hv : σ.ld b o = some v) (hb : b ∉ S) : σ'.ld b o = some v := by
  have := h.m b (ld_lt hv) hb
  unfold AS.ld at hv ⊢
  rw [this, h.c]
  exact hv
theorem c_le_ld : Ce.le σ.c σ.ld := fun b o v h => ld_c h
theorem Chg.sans (h : Chg S σ σ') (hX : ∀ g, g ∈ S → g ∈ X ∨ σ.n ≤ g) : Ce.le (sans σ X) (sans σ' X) := fun b o v hv => by
  unfold E.sans at hv ⊢
  split at hv
  · cases hv
  · rename_i hb
    rw [if_neg hb]
    refine h.ld hv (fun hs => ?_)
    rcases hX b hs with h1 | h1
    · exact hb h1
    · have := ld_lt hv; omega
theorem sans_more (hY : ∀ g, g ∈ Y → g ∈ X ∨ σ.n ≤ g) : Ce.le (sans σ X) (sans σ Y) := fun b o v hv => by
  unfold sans at hv ⊢
  split at hv
  · cases hv
  · rename_i hb
    rw [if_neg (fun hy => ?_)]
    · exact hv
    · rcases hY b hy with h1 | h1
      · exact hb h1
      · have := ld_lt hv; omega
theorem Chg.le (h : Chg [] σ σ') : Ce.le σ.ld σ'.ld := fun b o v hv => h.ld hv (by simp)
theorem Gar.le (h : Gar σ σ') : Ce.le σ.ld σ'.ld := h.chg.le
end
def RpL {α : Type} [Rp α] (c : Ce) : List α → List Value → Prop
  | [], xs => xs = []
  | a :: l, xs => ∃ x y, xs = x ++ y ∧ rp c a x ∧ RpL c l y
section
variable {α β : Type} [Rp α] [Rp β] {c c' : Ce} {a : α} {l m : List α} {xs ys : List Value} {σ σ' : AS} {v : Value} {X Y S : List Nat}
theorem RpL.mono (hc : Ce.le c c') : ∀ {l : List α} {xs : List Value}, RpL c l xs → RpL c' l xs
  | [], _, h => h
  | _ :: _, _, ⟨x, y, e, h, r⟩ => ⟨x, y, e, Rp.mono hc h, RpL.mono hc r⟩
theorem RpL.len : ∀ {l : List α} {xs : List Value}, RpL c l xs → xs.length = l.length * sz α
  | [], _, h => by rw [show _ = _ from h]; simp
  | _ :: l, _, ⟨x, y, e, h, r⟩ => by
    have h1 := Rp.len h
    have h2 := RpL.len r
    rw [e, List.length_append, h1, h2, List.length_cons, Nat.add_mul]; omega
theorem RpL.ok : ∀ {l : List α} {xs : List Value}, RpL c l xs → xs.all okCell = true
  | [], _, h => by rw [show _ = _ from h]; rfl
  | _ :: l, _, ⟨x, y, e, h, r⟩ => by rw [e, List.all_append, Rp.ok h, RpL.ok r]; rfl
theorem RpL.one (h : rp c a xs) : RpL c [a] xs := ⟨xs, [], by simp, h, rfl⟩
theorem RpL.append : ∀ {l : List α} {xs : List Value}, RpL c l xs → RpL c m ys → RpL c (l ++ m) (xs ++ ys)
  | [], _, h, k => by rw [show _ = _ from h]; exact k
  | _ :: l, _, ⟨x, y, e, h, r⟩, k => ⟨x, y ++ ys, by rw [e, List.append_assoc], h, r.append k⟩
theorem RpL.at : ∀ {l : List α} {xs : List Value}, RpL c l xs → ∀ i (hi : i < l.length), ∃ cs, rp c l[i] cs ∧ ∀ j v, cs[j]? = some v → xs[i * sz α + j]? = some v
  | a :: l, _, ⟨x, y, e, h, r⟩, 0, hi => ⟨x, h, fun j v hv => by
    have := (List.getElem?_eq_some_iff.1 hv).1
    rw [e, Nat.zero_mul, Nat.zero_add, List.getElem?_append_left this]; exact hv⟩
  | a :: l, _, ⟨x, y, e, h, r⟩, i + 1, hi => by
    obtain ⟨cs, h1, h2⟩ := r.at i (by simpa using hi)
    refine ⟨cs, h1, fun j v hv => ?_⟩
    have hx := Rp.len h
    rw [e, List.getElem?_append_right (by rw [hx, Nat.add_mul]; omega), show (i + 1) * sz α + j - x.length = i * sz α + j from by rw [hx, Nat.add_mul]; omega]
    exact h2 j v hv
theorem RpL.set : ∀ {l : List α} {xs : List Value}, RpL c l xs → ∀ i (_ : i < l.length), rp c a ys → RpL c (l.set i a) (xs.take (i * sz α) ++ ys ++ xs.drop (i * sz α + sz α))
  | b :: l, _, ⟨x, y, e, h, r⟩, 0, hi, hy => ⟨ys, y, by
    have hx := Rp.len h
    rw [e, Nat.zero_mul, List.take_zero, List.nil_append, Nat.zero_add, ← hx, List.drop_left], hy, r⟩
  | b :: l, _, ⟨x, y, e, h, r⟩, i + 1, hi, hy => by
    have hx := Rp.len h
    refine ⟨x, _, ?_, h, r.set i (by simpa using hi) hy⟩
    rw [e, show (i + 1) * sz α = x.length + i * sz α from by rw [hx, Nat.add_mul]; omega, List.take_length_add_append, Nat.add_assoc, List.drop_length_add_append]
    simp only [List.append_assoc]
def OwnR (σ : AS) (X : List Nat) (v : Value) (l : List α) : Prop := ∃ xs, OwnV σ v l.length (sz α) xs ∧ RpL (sans σ X) l xs
theorem OwnR.nil : OwnR σ X (.slice none 0 0) ([] : List α) := ⟨[], OwnV.nil σ _, rfl⟩
theorem OwnR.ok (h : OwnR σ X v l) : okCell v = true := by
  obtain ⟨xs, h1, _⟩ := h
  exact h1.ok
theorem OwnR.lt (h : OwnR σ X v l) {g : Nat} (hg : g ∈ ownL v) : g < σ.n := by
  obtain ⟨xs, h1, _⟩ := h
  exact h1.lt hg
theorem OwnR.chg (h : OwnR σ X v l) (k : Chg S σ σ') (hn : ∀ g, g ∈ ownL v → g ∉ S) (hX : ∀ g, g ∈ S → g ∈ X ∨ σ.n ≤ g) : OwnR σ' X v l := by
  obtain ⟨xs, h1, h2⟩ := h
  exact ⟨xs, h1.chg k hn, h2.mono (k.sans hX)⟩
theorem OwnR.more (h : OwnR σ X v l) (hY : ∀ g, g ∈ Y → g ∈ X ∨ σ.n ≤ g) : OwnR σ Y v l := by
  obtain ⟨xs, h1, h2⟩ := h
  exact ⟨xs, h1, h2.mono (sans_more hY)⟩
theorem OwnR.repX (h : OwnR σ X v l) (hn : ∀ g, g ∈ ownL v → g ∉ X) : RepL (sans σ X) v l := by
  obtain ⟨xs, h1, h2⟩ := h
  rcases h1 with ⟨rfl, h0, _⟩ | ⟨g, cp, sp, rfl, hm, hl, hcl, hle, hcm⟩
  · have : l = [] := List.eq_nil_of_length_eq_zero h0
    subst this
    exact ⟨none, 0, rfl, Nat.le_refl _, Nat.zero_le _, .inl rfl⟩
  · refine ⟨_, cp, rfl, hle, hcm, .inr ⟨g, 0, rfl, fun i hi => ?_⟩⟩
    obtain ⟨cs, h3, h4⟩ := h2.at i hi
    refine ⟨cs, h3, fun j v hv => ?_⟩
    have := h4 j v hv
    unfold sans
    rw [if_neg (hn g (by simp [ownL])), ld_m hm, Nat.zero_add, List.getElem?_append_left (List.getElem?_eq_some_iff.1 this).1]
    exact this
theorem appR_by {P : Program} {k : Value → AS → Prop} {t e : TypeId} {bytes m c b o : Nat} {ms : List α} {news : List Value} (ht : P.underlying t = some (.slice e)) (hi : infB P e (sz α) bytes = true) (hown : OwnR σ X v l)
    (hX : ∀ g, g ∈ ownL v → g ∈ X) (hn : ldsS σ b o (m * sz α) = some news) (hr : RpL (sans σ X) ms news) (hm : ms.length = m) (hlen : (l.length + m) * bytes ≤ 140737488355328) (hlen' : l.length + m ≤ maxLen)
    (hk : ∀ v' σ', OwnR σ' X v' (l ++ ms) → Chg (ownL v) σ σ' → (∀ g, g ∈ ownL v' → g ∈ ownL v ∨ g = σ.n) → k v' σ') : kApp P t t v (.slice (some ⟨b, o, none⟩) m c) σ k := by
  obtain ⟨xs, h1, h2⟩ := hown
  refine app_by ht hi h1 hn hr.ok hlen hlen' ?_
  intro v' σ' ho hc hg
  refine hk v' σ' ⟨xs ++ news, by rw [List.length_append, hm]; exact ho, ?_⟩ hc hg
  have hle : Ce.le (sans σ X) (sans σ' X) := hc.sans (fun g hg => .inl (hX g hg))
  exact (h2.mono hle).append (hr.mono hle)
theorem app0_by {P : Program} {k : Value → AS → Prop} {t e : TypeId} {sz bytes n c : Nat} {a : Option Addr} (ht : P.underlying t = some (.slice e)) (hi : infB P e sz bytes = true) (hown : OwnV σ v n sz xs) (hk : k v σ) : kApp P t t v (.slice a 0 c) σ k := by
  obtain ⟨i, z, hi1, _⟩ := infB_ok hi
  intro w hw
  refine ⟨v, w, ?_, KeepP.refl _ _, σ, hw, Fol.refl _, hk⟩
  have hf : (Builtin.firstCells i.size 0 (.slice a 0 c)).run P w = .ok #[] w := by
    cases a with
    | none => rfl
    | some a => simp [Builtin.firstCells, loadCells, loadCellsFrom]
  rcases hown with ⟨rfl, rfl, rfl⟩ | ⟨g, cap, sp, rfl, hm, hl, hcl, hnc, hcm⟩
  · simp [Builtin.append_, run_underlying ht, sizeOf, typeInfo, hi1, Builtin.lenOf, hf]
  · simp [Builtin.append_, run_underlying ht, sizeOf, typeInfo, hi1, Builtin.lenOf, hf, hnc, storeCells]
theorem callv_by {P : Program} {f : FuncId} {a b args : List Value} {k : Value → AS → Prop} (ho : okFn P f = true) (h : kCall P f (a ++ args ++ b) σ k) : kCallv P (.func (.func f) a.toArray b.toArray) args σ k := by
  rw [w_callv f a b args ho]; exact h
theorem RepL.val (h : RepL c v l) : ∃ a cap, v = .slice a l.length cap ∧ l.length ≤ cap ∧ cap ≤ maxLen := by
  obtain ⟨a, cap, h1, h2, h3, _⟩ := h
  exact ⟨a, cap, h1, h2, h3⟩
theorem RepL.at (h : RepL σ.ld v l) : ∃ b o cap, (v = .slice (some ⟨b, o, none⟩) l.length cap ∨ (l = [] ∧ ∃ a, v = .slice a 0 cap)) ∧ l.length ≤ cap ∧ cap ≤ maxLen ∧ ∀ i (hi : i < l.length), ∃ cs, rp σ.ld l[i] cs ∧ cs.length = sz α ∧ ldsS σ b (o + i * sz α) (sz α) = some cs ∧ ∀ j v, cs[j]? = some v → σ.ld b (o + i * sz α + j) = some v := by
  obtain ⟨a, cap, h1, h2, h3, h4⟩ := h
  rcases h4 with rfl | ⟨b, o, rfl, hr⟩
  · exact ⟨0, 0, cap, .inr ⟨rfl, a, h1⟩, h2, h3, fun i hi => by simp at hi⟩
  · refine ⟨b, o, cap, .inl h1, h2, h3, fun i hi => ?_⟩
    obtain ⟨cs, h5, h6⟩ := hr i hi
    have hl := Rp.len h5
    refine ⟨cs, h5, hl, ?_, h6⟩
    have key : ∀ (cs : List Value) (n o : Nat), cs.length = n → (∀ j v, cs[j]? = some v → σ.ld b (o + j) = some v) → ldsS σ b o n = some cs := by
      intro cs
      induction cs with
      | nil => intro n o hn _; simp at hn; subst hn; rfl
      | cons v r ih =>
        intro n o hn hc
        simp at hn
        subst hn
        have h0 := hc 0 v rfl
        simp only [Nat.add_zero] at h0
        simp only [ldsS]
        rw [h0, Option.bind_some, ih r.length (o + 1) rfl (fun j u hu => by
          have := hc (j + 1) u (by simpa using hu)
          rw [show o + 1 + j = o + (j + 1) from by omega]; exact this)]
        rfl
    exact key cs _ _ hl h6
theorem lds_add {b : Nat} : ∀ {n o m : Nat} {x y : List Value}, ldsS σ b o n = some x → ldsS σ b (o + n) m = some y → ldsS σ b o (n + m) = some (x ++ y)
  | 0, o, m, x, y, h, k => by
    injection h with h; subst h
    rw [Nat.zero_add]; exact k
  | n + 1, o, m, x, y, h, k => by
    simp only [ldsS, Option.bind_eq_some_iff, Option.map_eq_some_iff] at h
    obtain ⟨v, hv, r, hr, rfl⟩ := h
    rw [show n + 1 + m = (n + m) + 1 from by omega]
    simp only [ldsS, hv, Option.bind_some]
    rw [lds_add hr (by rw [show o + 1 + n = o + (n + 1) from by omega]; exact k)]
    rfl
theorem RepL.off {b o n cp : Nat} (h : RepL (sans σ X) (.slice (some ⟨b, o, none⟩) n cp) l) (hl : 0 < l.length) : b ∉ X := by
  obtain ⟨a, cap, hv, _, _, h4⟩ := h
  injection hv with hv _ _
  rcases h4 with rfl | ⟨b', o', rfl, hr⟩
  · simp at hl
  · injection hv with hv
    injection hv with h1 h2 _
    subst h1
    obtain ⟨cs, hc, hx⟩ := hr 0 hl
    have hcl := Rp.len hc
    have hp := Rp.pos (α := α)
    have := hx 0 cs[0] (by rw [List.getElem?_eq_getElem (by omega)])
    unfold sans at this
    intro hb
    rw [if_pos hb] at this
    cases this
end
end Go.Proofs.YtdlimikcgdgfpaaGreatDoor.E
namespace Go.Proofs.YtdlimikcgdgfpaaGreatDoor.E
open Go.RowKit Go.Lib
open Rp
structure Ck where
  H : List Nat → Ce → AS → Prop
  loc : ∀ {F X X' σ σ'}, H F X σ → Ce.le X X' → (∀ g, g ∈ F → σ'.m g = σ.m g) → H F X' σ'
  live : ∀ {F X σ}, H F X σ → ∀ g, g ∈ F → g < σ.n
def Sep (X : Ce) (σ : AS) : List Ck → (Nat → Prop) → Prop
  | [], _ => True
  | C :: R, A => ∃ F, C.H F X σ ∧ (∀ g, g ∈ F → ¬ A g) ∧ Sep X σ R (fun b => A b ∨ b ∈ F)
def inX (X : Ce) (b : Nat) : Prop := ∃ o, X b o ≠ none
structure Hs (σ : AS) (X : Ce) (R : List Ck) : Prop where
  x : Ce.le X σ.ld
  s : Sep X σ R (inX X)
section
variable {σ σ' : AS} {X X' : Ce} {R : List Ck} {C C' D : Ck} {A A' : Nat → Prop} {p : Nat} {cs cs' : List Value}
theorem inX_lt (h : Ce.le X σ.ld) {b : Nat} (hb : inX X b) : b < σ.n := by
  obtain ⟨o, ho⟩ := hb
  cases hv : X b o with
  | none => exact absurd hv ho
  | some v => exact ld_lt (h _ _ _ hv)
theorem Sep.frame : ∀ {R : List Ck} {A A' : Nat → Prop}, Sep X σ R A → Ce.le X X' → (∀ g, g < σ.n → ¬ A g → σ'.m g = σ.m g) → (∀ g, A' g → A g ∨ σ.n ≤ g) → Sep X' σ' R A'
  | [], _, _, _, _, _, _ => trivial
  | C :: R, A, A', ⟨F, h, ha, hr⟩, hx, hm, hA => by
    refine ⟨F, C.loc h hx (fun g hg => hm g (C.live h g hg) (ha g hg)), fun g hg hg' => ?_, hr.frame hx (fun g hg hn => hm g hg (fun h => hn (.inl h))) (fun g hg => ?_)⟩
    · rcases hA g hg' with h1 | h1
      · exact ha g hg h1
      · have := C.live h g hg; omega
    · rcases hg with hg | hg
      · rcases hA g hg with h1 | h1
        · exact .inl (.inl h1)
        · exact .inr h1
      · exact .inl (.inr hg)
theorem Sep.anti (h : Sep X σ R A) (hA : ∀ g, A' g → A g) : Sep X σ R A' := h.frame (Ce.le_refl _) (fun _ _ _ => rfl) (fun g hg => .inl (hA g hg))
theorem Sep.swap (h : Sep X σ (D :: C :: R) A) : Sep X σ (C :: D :: R) A := by
  obtain ⟨F0, h0, a0, F, h1, a1, hr⟩ := h
  exact ⟨F, h1, fun g hg hA => a1 g hg (.inl hA), F0, h0, fun g hg hA => hA.elim (a0 g hg) (fun hf => a1 g hf (.inr hg)), hr.anti (fun g hg => by
    rcases hg with (hg | hg) | hg
    · exact .inl (.inl hg)
    · exact .inr hg
    · exact .inl (.inr hg))⟩
theorem Sep.front : ∀ {R : List Ck} {A : Nat → Prop} (i : Nat), Sep X σ R A → R[i]? = some C → Sep X σ (C :: R.eraseIdx i) A
  | [], _, i, _, hi => by simp at hi
  | C0 :: R, A, 0, h, hi => by
    simp only [List.getElem?_cons_zero, Option.some.injEq] at hi
    subst hi
    exact h
  | C0 :: R, A, i + 1, ⟨F0, h0, a0, hr⟩, hi => Sep.swap ⟨F0, h0, a0, hr.front i (by simpa using hi)⟩
theorem Hs.front (i : Nat) (h : Hs σ X R) (hi : R[i]? = some C) : Hs σ X (C :: R.eraseIdx i) := ⟨h.x, h.s.front i hi⟩
theorem Hs.swap (h : Hs σ X (D :: C :: R)) : Hs σ X (C :: D :: R) := ⟨h.x, h.s.swap⟩
theorem Hs.drop (h : Hs σ X (C :: R)) : Hs σ X R := ⟨h.x, by
  obtain ⟨F, _, _, hr⟩ := h.s
  exact hr.anti (fun g hg => .inl hg)⟩
theorem Hs.take (h : Hs σ X (C :: R)) : ∃ F, C.H F X σ ∧ (∀ g, g ∈ F → ¬ inX X g) ∧ ∀ {σ' : AS} {X' : Ce} {C' : Ck} {F' : List Nat}, Ce.le X X' → (∀ g, g < σ.n → g ∉ F → σ'.m g = σ.m g) → C'.H F' X' σ' →
    (∀ g, g ∈ F' → g ∈ F ∨ σ.n ≤ g) → (∀ g, g ∈ F' → ¬ inX X' g) → (∀ g, inX X' g → inX X g ∨ g ∈ F ∨ σ.n ≤ g) → Ce.le X' σ'.ld → Hs σ' X' (C' :: R) := by
  obtain ⟨F, h1, ha, hr⟩ := h.s
  refine ⟨F, h1, ha, fun hx hm h' hF hA1 hA2 hl => ⟨hl, _, h', hA1, ?_⟩⟩
  refine hr.frame hx (fun g hg hn => hm g hg (fun h => hn (.inr h))) (fun g hg => ?_)
  rcases hg with hg | hg
  · rcases hA2 g hg with h1 | h1 | h1
    · exact .inl (.inl h1)
    · exact .inl (.inr h1)
    · exact .inr h1
  · rcases hF g hg with h1 | h1
    · exact .inl (.inr h1)
    · exact .inr h1
theorem Hs.turn (h : Hs σ X (C :: R)) : ∃ F, C.H F X σ ∧ ∀ {σ' : AS} {C' : Ck} {F' : List Nat}, Chg F σ σ' → C'.H F' X σ' → (∀ g, g ∈ F' → g ∈ F ∨ σ.n ≤ g) → Hs σ' X (C' :: R) := by
  obtain ⟨F, h1, ha, hk⟩ := h.take
  refine ⟨F, h1, fun hc h' hF => hk (Ce.le_refl _) (fun g hg hn => hc.m g hg hn) h' hF (fun g hg hi => ?_) (fun g hg => .inl hg) (fun b o v hv => ?_)⟩
  · rcases hF g hg with h2 | h2
    · exact ha g h2 hi
    · have := inX_lt h.x hi; omega
  · exact hc.ld (h.x _ _ _ hv) (fun hb => ha b hb ⟨o, by rw [hv]; simp⟩)
theorem Hs.more (h : Hs σ X R) {F : List Nat} (hc : Chg [] σ σ') (h' : C.H F X σ') (hF : ∀ g, g ∈ F → σ.n ≤ g) : Hs σ' X (C :: R) := by
  refine ⟨Ce.le_trans h.x hc.le, F, h', fun g hg hi => ?_, h.s.frame (Ce.le_refl _) (fun g hg _ => hc.m g hg (by simp)) (fun g hg => ?_)⟩
  · have := inX_lt h.x hi; have := hF g hg; omega
  · rcases hg with hg | hg
    · exact .inl hg
    · exact .inr (hF g hg)
theorem Hs.gar (h : Hs σ X R) (hc : Chg [] σ σ') : Hs σ' X R := ⟨Ce.le_trans h.x hc.le, h.s.frame (Ce.le_refl _) (fun g hg _ => hc.m g hg (by simp)) (fun g hg => .inl hg)⟩
theorem Hs.up (h : Hs σ X R) (j : Nat) : Hs (σ.up j) X R := h.gar ((Chg.refl _ _).up j)
theorem Hs.junk (h : Hs σ X R) (ob : Ob) : Hs (σ.new ob) X R := h.gar ((Chg.refl _ _).new ob)
theorem Hs.le (h : Hs σ X R) (hx : Ce.le X' X) (h2 : Sep X' σ R (inX X')) : Hs σ X' R := ⟨Ce.le_trans hx h.x, h2⟩
theorem Hs.ldx (h : Hs σ X R) {b o : Nat} {v : Value} (hv : X b o = some v) : ldOb (σ.c b o) (σ.m b) o = some v := by
  rw [← ld_ob]; exact h.x _ _ _ hv
def Cel (p : Nat) (cs : List Value) : Ck := ⟨fun F X σ => F = [p] ∧ σ.m p = some (.cells cs), fun ⟨h, h1⟩ _ hm => ⟨h, (hm _ (by rw [h]; simp)).trans h1⟩, fun ⟨h, h1⟩ g hg => by rw [h] at hg; simp at hg; subst hg; exact AS.lt h1⟩
theorem Hs.obj (h : Hs σ X (Cel p cs :: R)) : σ.m p = some (.cells cs) := by obtain ⟨_, ⟨_, h⟩, _⟩ := h.s; exact h
theorem Hs.obj1 (h : Hs σ X (C :: Cel p cs :: R)) : σ.m p = some (.cells cs) := h.drop.obj
theorem Hs.obj2 {C2 : Ck} (h : Hs σ X (C :: C2 :: Cel p cs :: R)) : σ.m p = some (.cells cs) := h.drop.drop.obj
theorem Hs.obj3 {C2 C3 : Ck} (h : Hs σ X (C :: C2 :: C3 :: Cel p cs :: R)) : σ.m p = some (.cells cs) := h.drop.drop.drop.obj
theorem Hs.obj4 {C2 C3 C4 : Ck} (h : Hs σ X (C :: C2 :: C3 :: C4 :: Cel p cs :: R)) : σ.m p = some (.cells cs) := h.drop.drop.drop.drop.obj
theorem Hs.lt (h : Hs σ X (Cel p cs :: R)) : p < σ.n := σ.lt h.obj
theorem Hs.put (h : Hs σ X (Cel p cs :: R)) : Hs (σ.put p (.cells cs')) X (Cel p cs' :: R) := by
  obtain ⟨F, ⟨rfl, hm⟩, hk⟩ := h.turn
  exact hk ((Chg.refl _ _).put (.inl (by simp)) _) ⟨rfl, by rw [put_eq, hm]; rfl⟩ (fun g hg => .inl hg)
theorem Hs.put1 (h : Hs σ X (C :: Cel p cs :: R)) : Hs (σ.put p (.cells cs')) X (C :: Cel p cs' :: R) := h.swap.put.swap
theorem Hs.rot2 {C2 : Ck} (h : Hs σ X (C :: C2 :: D :: R)) : Hs σ X (D :: C :: C2 :: R) := h.front 2 rfl
theorem Hs.rot3 {C2 C3 : Ck} (h : Hs σ X (C :: C2 :: C3 :: D :: R)) : Hs σ X (D :: C :: C2 :: C3 :: R) := h.front 3 rfl
theorem Hs.un2 {C2 : Ck} (h : Hs σ X (D :: C :: C2 :: R)) : Hs σ X (C :: C2 :: D :: R) := h.rot2.rot2
theorem Hs.un3 {C2 C3 : Ck} (h : Hs σ X (D :: C :: C2 :: C3 :: R)) : Hs σ X (C :: C2 :: C3 :: D :: R) := h.rot3.rot3.rot3
theorem Hs.put2 {C2 : Ck} (h : Hs σ X (C :: C2 :: Cel p cs :: R)) : Hs (σ.put p (.cells cs')) X (C :: C2 :: Cel p cs' :: R) := h.rot2.put.un2
theorem Hs.new (h : Hs σ X R) : Hs (σ.new (.cells cs)) X (Cel σ.n cs :: R) := h.more ((Chg.refl _ _).new _) ⟨rfl, new_eq_⟩ (by simp)
theorem Hs.freeze (h : Hs σ X (Cel p cs :: R)) : ∃ X', Ce.le X X' ∧ (∀ o v, cs[o]? = some v → X' p o = some v) ∧ Hs σ X' R := by
  obtain ⟨F, ⟨rfl, hm⟩, ha, hr⟩ := h.s
  have hp : ¬ inX X p := ha p (by simp)
  refine ⟨fun b o => if b = p then cs[o]? else X b o, fun b o v hv => ?_, fun o v hv => by simp [hv], ?_, hr.frame (fun b o v hv => ?_) (fun _ _ _ => rfl) (fun g hg => ?_)⟩
  · have : b ≠ p := by rintro rfl; exact hp ⟨o, by rw [hv]; simp⟩
    simp [this, hv]
  · intro b o v hv
    by_cases hb : b = p
    · subst hb; rw [ld_m hm]; simpa using hv
    · exact h.x _ _ _ (by simpa [hb] using hv)
  · have : b ≠ p := by rintro rfl; exact hp ⟨o, by rw [hv]; simp⟩
    simp [this, hv]
  · obtain ⟨o, ho⟩ := hg
    by_cases hb : g = p
    · exact .inl (.inr (by simp [hb]))
    · exact .inl (.inl ⟨o, by simpa [hb] using ho⟩)
section
variable {α : Type} [Rp α] {l ms : List α} {v : Value} {a : α}
theorem OwnV.loc {n sz : Nat} {xs : List Value} (h : OwnV σ v n sz xs) (hm : ∀ g, g ∈ ownL v → σ'.m g = σ.m g) : OwnV σ' v n sz xs := by
  rcases h with h | ⟨g, c, sp, rfl, hg, r⟩
  · exact .inl h
  · exact .inr ⟨g, c, sp, rfl, (hm g (by simp [ownL])).trans hg, r⟩
def Own (v : Value) (l : List α) : Ck := ⟨fun F X σ => F = ownL v ∧ ∃ xs, OwnV σ v l.length (sz α) xs ∧ RpL X l xs, fun ⟨h, xs, h1, h2⟩ hx hm => ⟨h, xs, h1.loc (fun g hg => hm g (by rw [h]; exact hg)), h2.mono hx⟩, fun ⟨h, xs, h1, h2⟩ g hg => h1.lt (by rw [h] at hg; exact hg)⟩
theorem Hs.own (h : Hs σ X (Own v l :: R)) : ∃ x c, v = .slice x l.length c ∧ l.length ≤ c := by
  obtain ⟨_, ⟨_, xs, h1, _⟩, _⟩ := h.s
  exact h1.val
theorem Hs.own1 (h : Hs σ X (C :: Own v l :: R)) : ∃ x c, v = .slice x l.length c ∧ l.length ≤ c := h.drop.own
theorem Hs.own0 (h : Hs σ X R) : Hs σ X (Own (α := α) (.slice none 0 0) [] :: R) := h.more (F := []) (Chg.refl _ _) ⟨rfl, [], OwnV.nil _ _, rfl⟩ (by simp)
theorem apps_by {P : Program} {k : Value → AS → Prop} {t e : TypeId} {bytes m c : Nat} {news : List Value} (h : Hs σ X (Own v l :: R)) (ht : P.underlying t = some (.slice e)) (hi : infB P e (sz α) bytes = true)
    (hr : RpL X ms news) (hm : ms.length = m) (hlen : (l.length + m) * bytes ≤ 140737488355328) (hlen' : l.length + m ≤ maxLen)
    (hk : ∀ v' σ', Hs σ' X (Own v' (l ++ ms) :: R) → k v' σ') : kApp P t t v (.slice (some ⟨σ.n, 0, none⟩) m c) (σ.new (.cells news)) k := by
  have h2 := h.junk (.cells news)
  obtain ⟨F, ⟨rfl, xs, h3, h4⟩, hk2⟩ := h2.turn
  have hl := hr.len
  rw [hm] at hl
  refine app_by ht hi h3 (news := news) ?_ hr.ok hlen hlen' ?_
  · rw [ldsM new_eq_ _ 0 (by omega), List.drop_zero, List.take_of_length_le (by omega)]
  intro v' σ' ho hc hg
  refine hk v' σ' (hk2 (F' := ownL v') hc ⟨rfl, xs ++ news, by rw [List.length_append, hm]; exact ho, h4.append hr⟩ (fun g hg' => ?_))
  rcases hg g hg' with h | h
  · exact .inl h
  · exact .inr (by omega)
theorem push_by {P : Program} {k : Value → AS → Prop} {t e : TypeId} {bytes c : Nat} {news : List Value} (h : Hs σ X (Own v l :: R)) (ht : P.underlying t = some (.slice e)) (hi : infB P e (sz α) bytes = true)
    (hr : rp X a news) (hlen : (l.length + 1) * bytes ≤ 140737488355328) (hlen' : l.length + 1 ≤ maxLen)
    (hk : ∀ v' σ', Hs σ' X (Own v' (l ++ [a]) :: R) → k v' σ') : kApp P t t v (.slice (some ⟨σ.n, 0, none⟩) 1 c) (σ.new (.cells news)) k :=
  apps_by h ht hi (RpL.one hr) rfl hlen hlen' hk
theorem Hs.keep (h : Hs σ X (Own v l :: R)) : ∃ X', Ce.le X X' ∧ RepL X' v l ∧ Hs σ X' R := by
  obtain ⟨F, ⟨rfl, xs, h1, h2⟩, ha, hr⟩ := h.s
  rcases h1 with ⟨rfl, h0, _⟩ | ⟨g, cp, sp, rfl, hm, hl, hcl, hle, hcm⟩
  · have : l = [] := List.eq_nil_of_length_eq_zero h0
    subst this
    exact ⟨X, Ce.le_refl _, ⟨none, 0, rfl, Nat.le_refl _, Nat.zero_le _, .inl rfl⟩, h.drop⟩
  have hp : ¬ inX X g := ha g (by simp [ownL])
  have hle' : Ce.le X (fun b o => if b = g then (xs ++ sp)[o]? else X b o) := fun b o v hv => by
    have : b ≠ g := by rintro rfl; exact hp ⟨o, by rw [hv]; simp⟩
    simp [this, hv]
  refine ⟨fun b o => if b = g then (xs ++ sp)[o]? else X b o, hle', ⟨_, cp, rfl, hle, hcm, .inr ⟨g, 0, rfl, fun i hi => ?_⟩⟩, ?_, hr.frame hle' (fun _ _ _ => rfl) (fun b hb => ?_)⟩
  · obtain ⟨cs, h3, h4⟩ := h2.at i hi
    refine ⟨cs, Rp.mono hle' h3, fun j v hv => ?_⟩
    have := h4 j v hv
    simp only [if_true, Nat.zero_add]
    rw [List.getElem?_append_left (List.getElem?_eq_some_iff.1 this).1]
    exact this
  · intro b o v hv
    by_cases hb : b = g
    · subst hb; rw [ld_m hm]; simpa using hv
    · exact h.x _ _ _ (by simpa [hb] using hv)
  · obtain ⟨o, ho⟩ := hb
    by_cases hb : b = g
    · exact .inl (.inr (by simp [hb, ownL]))
    · exact .inl (.inl ⟨o, by simpa [hb] using ho⟩)
theorem RepL.get (h : RepL X v l) : ∃ a b o cap, v = .slice a l.length cap ∧ l.length ≤ cap ∧ cap ≤ maxLen ∧ ∀ i (hi : i < l.length), a = some ⟨b, o, none⟩ ∧ ∃ cs, rp X l[i] cs ∧ cs.length = sz α ∧ ∀ j v, cs[j]? = some v → X b (o + i * sz α + j) = some v := by
  obtain ⟨a, cap, h1, h2, h3, h4⟩ := h
  rcases h4 with rfl | ⟨b, o, h5, h6⟩
  · exact ⟨a, 0, 0, cap, h1, h2, h3, fun i hi => by simp at hi⟩
  · refine ⟨a, b, o, cap, h1, h2, h3, fun i hi => ⟨h5, ?_⟩⟩
    obtain ⟨cs, h7, h8⟩ := h6 i hi
    exact ⟨cs, h7, Rp.len h7, h8⟩
theorem Hs.lit {n : Nat} {cs : List Value} (h : Hs σ X (Cel p cs :: R)) (hr : RpL X l cs) (hl : l.length = n) (hb : n ≤ maxLen) : Hs σ X (Own (.slice (some ⟨p, 0, none⟩) n n) l :: R) := by
  obtain ⟨F, ⟨rfl, hm⟩, hk⟩ := h.turn
  have hlen := hr.len
  rw [hl] at hlen
  exact hk (F' := [p]) (Chg.refl _ _) ⟨rfl, cs, .inr ⟨p, n, [], by rw [hl], by rw [List.append_nil]; exact hm, by rw [hl]; exact hlen, by rw [List.append_nil]; exact hlen, by omega, hb⟩, hr⟩ (fun g hg => .inl hg)
end
end
theorem loop_inv {B : (List Value → AS → Prop) → List Value → AS → Prop} {xs : List Value} {s : AS} (I : Nat → List Value → AS → Prop) (n : Nat) (h0 : I n xs s)
    (h : ∀ n xs s (again : List Value → AS → Prop), I n xs s → (∀ m xs' s', I m xs' s' → m < n → again xs' s') → B again xs s) : kLoop B xs s :=
  ⟨I, ⟨n, h0⟩, fun n xs s hi => h n xs s _ hi fun m xs' s' h' hlt => ⟨m, hlt, h'⟩⟩
end Go.Proofs.YtdlimikcgdgfpaaGreatDoor.E
namespace Go.Proofs.YtdlimikcgdgfpaaGreatDoor.E
open Go.RowKit Go.Lib Go.MapKept
open Go.ChangeMaps (setBlock)
class KeyT (κ : Type) where
  enc : κ → Value
  d : TypeDesc
  ok : ∀ k, IsKey d (enc k)
  inj : ∀ {a b}, enc a = enc b → a = b
  stays : ∀ a, Instr.sameBits 10000 (enc a) (enc a) = true
instance : KeyT Int := ⟨.int .i64, .int .i64, fun _ => rfl, fun h => by injection h, fun a => by simp [Instr.sameBits]⟩
instance : KeyT Str := ⟨fun s => .string (bs s), .string, fun _ => trivial, fun h => by
  injection h with h
  have := congrArg (fun b => b.data.toList) h
  simpa [bs] using this, fun a => by
  show (bs a == bs a) = true
  exact (bytes_beq _ _).2 rfl⟩
abbrev encK {κ : Type} [KeyT κ] : κ → Value := KeyT.enc
section
variable {κ : Type}
abbrev En (κ : Type) := κ × Value × Nat
def enE [KeyT κ] (e : En κ) : MapEntry := ⟨encK e.1, e.2.1, e.2.2⟩
def mapO [KeyT κ] (es : List (En κ)) (clk : Nat) : Go.Obj := .map (es.map enE).toArray clk
def keyV (e : En κ) : κ × Value := (e.1, e.2.1)
structure WF (es : List (En κ)) (clk : Nat) : Prop where
  keys : es.Pairwise (fun a b => a.1 ≠ b.1)
  born : es.Pairwise (fun a b => a.2.2 < b.2.2)
  lt : ∀ e, e ∈ es → e.2.2 < clk
def ins [DecidableEq κ] (l : List (κ × Value)) (k : κ) (v : Value) : List (κ × Value) := if (l.lookup k).isSome then l.map (fun p => if p.1 = k then (k, v) else p) else l ++ [(k, v)]
def del [DecidableEq κ] (l : List (κ × Value)) (k : κ) : List (κ × Value) := l.filter (fun p => decide (p.1 ≠ k))
def ItOk (σ : AS) (r : Nat) (es : List (En κ)) (clk : Nat) (F : List Nat) : Option (Nat × List κ) → Prop
  | none => F = [r]
  | some (i, vis) => F = [r, i] ∧ r ≠ i ∧ ∃ seen : Array Nat, σ.m i = some (.other (.mapIter (some r) clk seen clk)) ∧ (∀ e, e ∈ es → (e.2.2 ∈ seen ↔ e.1 ∈ vis)) ∧ (∀ s, s ∈ seen → s < clk) ∧ ∀ e, e ∈ es → vis.head? = some e.1 → ∃ s0 : Array Nat, seen = s0.push e.2.2
def Mp [KeyT κ] (r : Nat) (it : Option (Nat × List κ)) (l : List (κ × Value)) : Ck := ⟨fun F X σ => ∃ es clk, es.map keyV = l ∧ WF es clk ∧ σ.m r = some (.other (mapO es clk)) ∧ ItOk σ r es clk F it, fun {F X X' σ σ'} ⟨es, clk, h1, h2, h3, h4⟩ _ hm => by
    have hr : r ∈ F := by
      unfold ItOk at h4
      split at h4
      · rw [h4]; simp
      · rw [h4.1]; simp
    refine ⟨es, clk, h1, h2, (hm r hr).trans h3, ?_⟩
    unfold ItOk at h4 ⊢
    split at h4
    · exact h4
    · obtain ⟨h5, h6, seen, h7, h8⟩ := h4
      exact ⟨h5, h6, seen, (hm _ (by rw [h5]; simp)).trans h7, h8⟩, fun {F X σ} ⟨es, clk, h1, h2, h3, h4⟩ g hg => by
    unfold ItOk at h4
    split at h4
    · rw [h4] at hg; simp at hg; subst hg; exact σ.lt h3
    · obtain ⟨h5, h6, seen, h7, h8⟩ := h4
      rw [h5] at hg
      simp at hg
      rcases hg with rfl | rfl
      · exact σ.lt h3
      · exact σ.lt h7⟩
theorem lookup_none [DecidableEq κ] {l : List (κ × Value)} {k : κ} : (∀ p, p ∈ l → p.1 ≠ k) → l.lookup k = none := by
  induction l with
  | nil => intro _; rfl
  | cons p l ih =>
    intro h
    have h1 := h p (by simp)
    rw [List.lookup_cons]
    have : (k == p.1) = false := by simp; exact fun e => h1 e.symm
    rw [this]
    exact ih (fun q hq => h q (by simp [hq]))
theorem lookup_some [DecidableEq κ] {l : List (κ × Value)} {k : κ} {v : Value} (hk : l.Pairwise (fun a b => a.1 ≠ b.1)) (h : (k, v) ∈ l) : l.lookup k = some v := by
  induction l with
  | nil => cases h
  | cons p l ih =>
    rw [List.pairwise_cons] at hk
    rw [List.lookup_cons]
    rcases List.mem_cons.1 h with rfl | h
    · simp
    · have : (k == p.1) = false := by simp; exact fun e => hk.1 _ h e.symm
      rw [this]
      exact ih hk.2 h
theorem WF.keysV {es : List (En κ)} {clk : Nat} (h : WF es clk) : (es.map keyV).Pairwise (fun a b => a.1 ≠ b.1) := by
  rw [List.pairwise_map]; exact h.keys
theorem find_spec [KeyT κ] (es : List (En κ)) (k : κ) :
    (Instr.findNow (KeyT.d κ) (encK k) (es.map enE) 0 = some none ∧ ∀ e, e ∈ es → e.1 ≠ k) ∨
    ∃ j v b, Instr.findNow (KeyT.d κ) (encK k) (es.map enE) 0 = some (some (j, v)) ∧ es[j]? = some (k, v, b) := by
  rcases findNow_spec (d := KeyT.d κ) (k := encK k) (KeyT.ok k) (es.map enE) 0 (fun x hx => by
    obtain ⟨e, _, rfl⟩ := List.mem_map.1 hx
    exact KeyT.ok e.1) with ⟨h1, h2⟩ | ⟨j, e, h1, h2, h3⟩
  · exact .inl ⟨h1, fun e he hk => h2 (enE e) (List.mem_map.2 ⟨e, he, rfl⟩) (by rw [← hk]; rfl)⟩
  · rw [List.getElem?_map, Option.map_eq_some_iff] at h2
    obtain ⟨a, ha, rfl⟩ := h2
    have : a.1 = k := KeyT.inj h3
    subst this
    exact .inr ⟨j, a.2.1, a.2.2, by rw [Nat.zero_add] at h1; exact h1, ha⟩
theorem erase_at [DecidableEq κ] {es : List (En κ)} {k : κ} {v : Value} {b : Nat} (hk : es.Pairwise (fun a b => a.1 ≠ b.1)) {j : Nat} (hj : es[j]? = some (k, v, b)) : es.eraseIdx j = es.filter (fun e => decide (e.1 ≠ k)) := by
  induction es generalizing j with
  | nil => simp at hj
  | cons e es ih =>
    rw [List.pairwise_cons] at hk
    cases j with
    | zero =>
      simp only [List.getElem?_cons_zero, Option.some.injEq] at hj
      subst hj
      simp only [List.eraseIdx_cons_zero, List.filter_cons, ne_eq, not_true_eq_false, decide_false, Bool.false_eq_true, if_false]
      rw [List.filter_eq_self.2]
      intro a ha
      have := hk.1 a ha
      simp; exact fun e => this e.symm
    | succ j =>
      simp only [List.getElem?_cons_succ] at hj
      have hm : (k, v, b) ∈ es := List.mem_of_getElem? hj
      have hne : e.1 ≠ k := hk.1 _ hm
      simp only [List.eraseIdx_cons_succ, List.filter_cons, ne_eq, hne, not_false_eq_true, decide_true, if_true]
      rw [ih hk.2 hj]
theorem modify_at [DecidableEq κ] {es : List (En κ)} {k : κ} {v u : Value} {b : Nat} (hk : es.Pairwise (fun a b => a.1 ≠ b.1)) {j : Nat} (hj : es[j]? = some (k, v, b)) : es.modify j (fun e => (k, u, e.2.2)) = es.map (fun e => if e.1 = k then (k, u, e.2.2) else e) := by
  induction es generalizing j with
  | nil => simp at hj
  | cons e es ih =>
    rw [List.pairwise_cons] at hk
    cases j with
    | zero =>
      simp only [List.getElem?_cons_zero, Option.some.injEq] at hj
      subst hj
      simp only [List.modify_zero_cons, List.map_cons, if_true]
      congr 1
      rw [List.map_congr_left (g := id) (fun a ha => ?_), List.map_id]
      have := hk.1 a ha
      simp; exact fun e => absurd e.symm this
    | succ j =>
      simp only [List.getElem?_cons_succ] at hj
      have hm : (k, v, b) ∈ es := List.mem_of_getElem? hj
      have hne : e.1 ≠ k := hk.1 _ hm
      simp only [List.modify_succ_cons, List.map_cons, if_neg hne]
      rw [ih hk.2 hj]
variable {σ : AS} {X : Ce} {R : List Ck} {P : Program} {K : Value → AS → Prop} {r i : Nat} {it : Option (Nat × List κ)} {l : List (κ × Value)} {t kt et : TypeId} {k : κ} {v z : Value} {vis : List κ}
theorem sat_set {w : World} {g : Nat} {o o' : Go.Obj} {ob : Ob} (hw : Sat σ w) (hg : σ.m g = some ob) (ho : ob = .other o) : Sat (σ.put g (.other o')) (setBlock w g o') ∧ KeepP σ.live w (setBlock w g o') := by
  subst ho
  have hh : w.heap[g]? = some o := hw.m g _ hg
  have hlt : g < w.heap.size := (Array.getElem?_eq_some_iff.1 hh).1
  have hne : ∀ k, k ≠ g → (setBlock w g o').heap[k]? = w.heap[k]? := fun k hk => by
    show (w.heap.setIfInBounds g o')[k]? = _
    rw [Array.getElem?_setIfInBounds, if_neg (fun e => hk e.symm)]
  refine ⟨⟨?_, ?_, ?_⟩, ⟨rfl, rfl, rfl, ?_, fun k hk hn => hne k ?_⟩⟩
  · show (w.heap.setIfInBounds g o').size = _
    rw [Array.size_setIfInBounds]; exact hw.sz
  · intro k ob hk
    by_cases e : k = g
    · subst e
      rw [put_eq, hg] at hk
      injection hk with hk; subst hk
      show (w.heap.setIfInBounds k o')[k]? = _
      rw [Array.getElem?_setIfInBounds, if_pos rfl, if_pos hlt]
    · rw [put_ne e] at hk
      exact obAt_congr (hne k e) (hw.m k ob hk)
  · intro b o v hv
    rw [put_c] at hv
    have e : b ≠ g := by
      rintro rfl
      have := (σ.wc b o (by simp [hv])).2
      rw [hg] at this; cases this
    rw [World.cell?_of_block (w := w) (a := ⟨b, o, none⟩) (hne b e)]
    exact hw.c b o v hv
  · show w.heap.size ≤ (w.heap.setIfInBounds g o').size
    rw [Array.size_setIfInBounds]; exact Nat.le_refl _
  · rintro rfl; exact hn (by unfold AS.live; rw [hg]; simp)
theorem out_set {w : World} {g : Nat} {o o' : Go.Obj} (hw : Sat σ w) (hg : σ.m g = some (.other o)) {u : Value} (hk : K u (σ.put g (.other o'))) : Out σ w K u (setBlock w g o') :=
  ⟨(sat_set hw hg rfl).2, _, (sat_set hw hg rfl).1, Fol.put _ _ _, hk⟩
theorem Mp.mem {F : List Nat} {es : List (En κ)} {clk : Nat} (h : ItOk σ r es clk F it) : r ∈ F := by
  unfold ItOk at h
  split at h
  · rw [h]; simp
  · rw [h.1]; simp
theorem lk_by [KeyT κ] [DecidableEq κ] (h : Hs σ X (Mp r it l :: R)) (ht : P.underlying t = some (.map kt et)) (hk : P.underlying kt = some (KeyT.d κ)) (hz : ∀ w, (zeroValue et).run P w = .ok z w)
    (hK : K ((l.lookup k).getD z) σ) : kGen P (.lk t false) [.map (some r), encK k] σ K := by
  obtain ⟨F, ⟨es, clk, rfl, h2, h3, h4⟩, _⟩ := h.s
  intro w hw
  have hh : w.heap[r]? = some (mapO es clk) := hw.m r _ h3
  refine ⟨_, w, ?_, Out.same hw hK⟩
  simp only [lkSem, Instr.lookup, Sem.run_bind, run_underlying ht, Result.andThen_ok, Go.MapKept.run_getObj_map hh, Sem.run_pure, run_checkKey hk (KeyT.ok k)]
  rcases find_spec es k with ⟨h5, h6⟩ | ⟨j, v, b, h5, h6⟩
  · simp only [run_findKey hk h5, Result.andThen_ok, Sem.run_bind, hz, Sem.run_pure]
    rw [lookup_none (fun p hp => by
      obtain ⟨e, he, rfl⟩ := List.mem_map.1 hp
      exact h6 e he)]
    rfl
  · simp only [run_findKey hk h5, Result.andThen_ok, Sem.run_pure]
    rw [lookup_some h2.keysV (List.mem_map.2 ⟨_, List.mem_of_getElem? h6, rfl⟩ : (k, v) ∈ _)]
    rfl
theorem lk2_by [KeyT κ] [DecidableEq κ] (h : Hs σ X (Mp r it l :: R)) (ht : P.underlying t = some (.map kt et)) (hk : P.underlying kt = some (KeyT.d κ)) (hz : ∀ w, (zeroValue et).run P w = .ok z w)
    (hK : K (.tuple #[(l.lookup k).getD z, .bool (l.lookup k).isSome]) σ) : kGen P (.lk t true) [.map (some r), encK k] σ K := by
  obtain ⟨F, ⟨es, clk, rfl, h2, h3, h4⟩, _⟩ := h.s
  intro w hw
  have hh : w.heap[r]? = some (mapO es clk) := hw.m r _ h3
  refine ⟨_, w, ?_, Out.same hw hK⟩
  simp only [lkSem, Instr.lookup, Sem.run_bind, run_underlying ht, Result.andThen_ok, Go.MapKept.run_getObj_map hh, Sem.run_pure, run_checkKey hk (KeyT.ok k)]
  rcases find_spec es k with ⟨h5, h6⟩ | ⟨j, v, b, h5, h6⟩
  · simp only [run_findKey hk h5, Result.andThen_ok, Sem.run_bind, hz, Sem.run_pure]
    rw [lookup_none (fun p hp => by
      obtain ⟨e, he, rfl⟩ := List.mem_map.1 hp
      exact h6 e he)]
    rfl
  · simp only [run_findKey hk h5, Result.andThen_ok, Sem.run_pure]
    rw [lookup_some h2.keysV (List.mem_map.2 ⟨_, List.mem_of_getElem? h6, rfl⟩ : (k, v) ∈ _)]
    rfl
theorem Mp.turn [KeyT κ] (h : Hs σ X (Mp r it l :: R)) : ∃ es clk, es.map keyV = l ∧ WF es clk ∧ σ.m r = some (.other (mapO es clk)) ∧ ∀ es' clk' , WF es' clk' → (it = none ∨ (clk' = clk ∧ ∀ e, e ∈ es' → ∃ u, (e.1, u, e.2.2) ∈ es)) → Hs (σ.put r (.other (mapO es' clk'))) X (Mp r it (es'.map keyV) :: R) := by
  obtain ⟨F, ⟨es, clk, rfl, h2, h3, h4⟩, hk⟩ := h.turn
  refine ⟨es, clk, rfl, h2, h3, fun es' clk' hw hi => ?_⟩
  refine hk (F' := F) ((Chg.refl _ _).put (.inl (Mp.mem h4)) _) ⟨es', clk', rfl, hw, by rw [put_eq, h3]; rfl, ?_⟩ (fun g hg => .inl hg)
  unfold ItOk at h4 ⊢
  split at h4
  · exact h4
  · obtain ⟨h5, h6, seen, h7, h8, h9, h10⟩ := h4
    rcases hi with hi | ⟨rfl, hi⟩
    · cases hi
    · refine ⟨h5, h6, seen, by rw [put_ne (Ne.symm h6)]; exact h7, fun e he => ?_, h9, fun e he hv => ?_⟩
      · obtain ⟨u, hu⟩ := hi e he
        exact (h8 (e.1, u, e.2.2) hu)
      · obtain ⟨u, hu⟩ := hi e he
        exact (h10 (e.1, u, e.2.2) hu hv)
theorem del_by [KeyT κ] [DecidableEq κ] {ty t2 : TypeId} (h : Hs σ X (Mp r it l :: R)) (ht : P.underlying t = some (.map kt et)) (hk : P.underlying kt = some (KeyT.d κ))
    (hK : ∀ σ', Hs σ' X (Mp r it (del l k) :: R) → K (.tuple #[]) σ') : kGen P (.blt .delete [t, t2] ty) [.map (some r), encK k] σ K := by
  obtain ⟨es, clk, rfl, h2, h3, ht'⟩ := Mp.turn h
  intro w hw
  have hh : w.heap[r]? = some (mapO es clk) := hw.m r _ h3
  have hwf : WF (es.filter (fun e => decide (e.1 ≠ k))) clk := ⟨h2.keys.filter _, h2.born.filter _, fun e he => h2.lt e (List.mem_filter.1 he).1⟩
  have hfin := hK _ (by
    have := ht' _ clk hwf (.inr ⟨rfl, fun e he => ⟨e.2.1, (List.mem_filter.1 he).1⟩⟩)
    have e : (es.filter (fun e => decide (e.1 ≠ k))).map keyV = del (es.map keyV) k := by
      unfold del
      rw [List.filter_map]
      rfl
    rw [e] at this
    exact this)
  refine ⟨_, _, ?_, out_set hw h3 hfin⟩
  simp only [lkSem, bltSem, Builtin.delete_, Sem.run_bind, List.getElem?_toArray, List.getElem?_cons_zero, List.getElem?_cons_succ, run_underlying ht, Result.andThen_ok, Go.MapKept.run_getObj_map hh, run_checkKey hk (KeyT.ok k)]
  rcases find_spec es k with ⟨h5, h6⟩ | ⟨j, v, b, h5, h6⟩
  · have e : es.filter (fun e => decide (e.1 ≠ k)) = es := List.filter_eq_self.2 (fun e he => by simpa using h6 e he)
    rw [e]
    simp only [run_findKey hk h5, Result.andThen_ok, Sem.run_bind, Go.MapKept.run_setObj_map _ hh, Sem.run_pure]
    rfl
  · rw [← erase_at h2.keys h6]
    have hj : j < es.length := (List.getElem?_eq_some_iff.1 h6).1
    have e : mapO (es.eraseIdx j) clk = .map ((es.map enE).toArray.eraseIdxIfInBounds j) clk := by
      unfold mapO
      congr 1
      apply Array.toList_inj.1
      rw [Array.eraseIdxIfInBounds, dif_pos (by simpa using hj)]
      simp [Go.ChangeMaps.map_eraseIdx]
    rw [e]
    simp only [run_findKey hk h5, Result.andThen_ok, Sem.run_bind, Go.MapKept.run_setObj_map _ hh, Sem.run_pure]
    rfl
theorem mup_by [KeyT κ] [DecidableEq κ] (h : Hs σ X (Mp r none l :: R)) (ht : P.underlying t = some (.map kt et)) (hk : P.underlying kt = some (KeyT.d κ))
    (hK : ∀ σ', Hs σ' X (Mp r none (ins l k v) :: R) → K undef σ') : kGen P (.mup t) [.map (some r), encK k, v] σ K := by
  obtain ⟨es, clk, rfl, h2, h3, ht'⟩ := Mp.turn h
  intro w hw
  have hh : w.heap[r]? = some (mapO es clk) := hw.m r _ h3
  rcases find_spec es k with ⟨h5, h6⟩ | ⟨j, v0, b, h5, h6⟩
  · have hl : (es.map keyV).lookup k = none := lookup_none (fun p hp => by
      obtain ⟨e, he, rfl⟩ := List.mem_map.1 hp
      exact h6 e he)
    have hwf : WF (es ++ [(k, v, clk)]) (clk + 1) := ⟨by
      rw [List.pairwise_append]
      refine ⟨h2.keys, by simp, fun a ha b hb => ?_⟩
      simp at hb; subst hb; exact h6 a ha, by
      rw [List.pairwise_append]
      refine ⟨h2.born, by simp, fun a ha b hb => ?_⟩
      simp at hb; subst hb; exact h2.lt a ha, fun e he => by
      simp at he
      rcases he with he | rfl
      · have := h2.lt e he; omega
      · show clk < _; omega⟩
    have hfin := hK _ (by
      have := ht' _ _ hwf (.inl rfl)
      have e : (es ++ [(k, v, clk)]).map keyV = ins (es.map keyV) k v := by
        unfold ins
        rw [hl]
        simp [keyV]
      rw [e] at this
      exact this)
    refine ⟨_, _, ?_, out_set hw h3 hfin⟩
    simp only [lkSem, Instr.mapUpdate, Sem.run_bind, run_underlying ht, Result.andThen_ok, Go.MapKept.run_getObj_map hh, run_checkKey hk (KeyT.ok k)]
    have h5' : Instr.findNow (KeyT.d κ) (encK k) ((es.map enE).toArray).toList 0 = some none := h5
    simp only [run_findKey hk h5', Result.andThen_ok, Sem.run_bind, Go.MapKept.run_setObj_map _ hh, Sem.run_pure]
    have e : mapO (es ++ [(k, v, clk)]) (clk + 1) = .map ((es.map enE).toArray.push { key := encK k, val := v, born := clk }) (clk + 1) := by
      unfold mapO
      congr 1
      simp [enE]
    rw [e]
    rfl
  · have hl : (es.map keyV).lookup k = some v0 := lookup_some h2.keysV (List.mem_map.2 ⟨_, List.mem_of_getElem? h6, rfl⟩ : (k, v0) ∈ _)
    have hwf : WF (es.map (fun e => if e.1 = k then (k, v, e.2.2) else e)) clk := by
      refine ⟨?_, ?_, fun e he => ?_⟩
      · rw [List.pairwise_map]
        refine h2.keys.imp (fun {a b} hab => ?_)
        have ea : ∀ a : En κ, (if a.1 = k then ((k, v, a.2.2) : En κ) else a).1 = a.1 := fun a => by split <;> simp_all
        rw [ea, ea]; exact hab
      · rw [List.pairwise_map]
        refine h2.born.imp (fun {a b} hab => ?_)
        have ea : ∀ a : En κ, (if a.1 = k then ((k, v, a.2.2) : En κ) else a).2.2 = a.2.2 := fun a => by split <;> simp_all
        rw [ea, ea]; exact hab
      · obtain ⟨a, ha, rfl⟩ := List.mem_map.1 he
        have ea : (if a.1 = k then ((k, v, a.2.2) : En κ) else a).2.2 = a.2.2 := by split <;> simp_all
        rw [ea]; exact h2.lt a ha
    have hfin := hK _ (by
      have := ht' _ _ hwf (.inl rfl)
      have e : (es.map (fun e => if e.1 = k then (k, v, e.2.2) else e)).map keyV = ins (es.map keyV) k v := by
        unfold ins
        rw [hl]
        simp only [Option.isSome_some, if_true, List.map_map]
        refine List.map_congr_left (fun a _ => ?_)
        simp only [Function.comp, keyV]
        by_cases hak : a.1 = k <;> simp [hak]
      rw [e] at this
      exact this)
    refine ⟨_, _, ?_, out_set hw h3 hfin⟩
    simp only [lkSem, Instr.mapUpdate, Sem.run_bind, run_underlying ht, Result.andThen_ok, Go.MapKept.run_getObj_map hh, run_checkKey hk (KeyT.ok k)]
    have h5' : Instr.findNow (KeyT.d κ) (encK k) ((es.map enE).toArray).toList 0 = some (some (j, v0)) := h5
    simp only [run_findKey hk h5', Result.andThen_ok]
    have hkey : ((((es.map enE).toArray)[j]?).map (·.key)).getD (encK k) = encK k := by
      simp [h6, enE]
    have hst : (Instr.keyThatStays ((((es.map enE).toArray)[j]?).map (·.key) |>.getD (encK k)) (encK k)).run P w = .ok (encK k) w := by
      rw [hkey]
      unfold Instr.keyThatStays
      rw [if_pos (KeyT.stays k)]
      rfl
    simp only [Sem.run_bind, hst, Result.andThen_ok, Go.MapKept.run_setObj_map _ hh, Sem.run_pure]
    have e : mapO (es.map (fun e => if e.1 = k then (k, v, e.2.2) else e)) clk = .map ((es.map enE).toArray.modify j fun e => { e with key := encK k, val := v }) clk := by
      rw [← modify_at h2.keys h6]
      unfold mapO
      congr 1
      apply Array.toList_inj.1
      simp only [Array.toList_modify]
      have mm : ∀ (es : List (En κ)) (j : Nat), (es.modify j (fun e => (k, v, e.2.2))).map enE = (es.map enE).modify j (fun e : MapEntry => { e with key := encK k, val := v }) := by
        intro es
        induction es with
        | nil => intro j; cases j <;> rfl
        | cons e es ih =>
          intro j
          cases j with
          | zero => rfl
          | succ j => simp only [List.modify_succ_cons, List.map_cons, ih j]
      exact mm es j
    rw [e]
    rfl
theorem rng_by [KeyT κ] (h : Hs σ X (Mp r none l :: R)) (ht : P.underlying t = some (.map kt et))
    (hK : ∀ σ', Hs σ' X (Mp r (some (σ.n, [])) l :: R) → K (.pointer (some ⟨σ.n, 0, none⟩)) σ') : kGen P (.rng t) [.map (some r)] σ K := by
  obtain ⟨F, ⟨es, clk, rfl, h2, h3, h4⟩, hk⟩ := h.turn
  have h4 : F = [r] := h4
  subst h4
  have hlt := σ.lt h3
  intro w hw
  have hh : w.heap[r]? = some (mapO es clk) := hw.m r _ h3
  have hs := hw.new_ (o := .mapIter (some r) clk #[] clk) (ob := .other (.mapIter (some r) clk #[] clk)) (fun _ he => he)
  have hz : w.heap.size = σ.n := hw.sz
  refine ⟨_, _, run_range_map w t kt et r _ clk ht hh, ?_⟩
  rw [hz]
  refine ⟨KeepP.alloc _ _ _, _, hs, Fol.new _ _, hK _ ?_⟩
  refine hk (F' := [r, σ.n]) ((Chg.refl _ _).new _) ⟨es, clk, rfl, h2, by rw [new_ne (by omega)]; exact h3, rfl, by omega, #[], new_eq_, by simp, by simp, by simp⟩ (fun g hg => by
    simp at hg ⊢
    rcases hg with rfl | rfl
    · exact .inl rfl
    · exact .inr (Nat.le_refl _))
theorem nxt_by [KeyT κ] {ty : TypeId} (h : Hs σ X (Mp r (some (i, vis)) l :: R)) (hdone : (∀ p, p ∈ l → p.1 ∈ vis) → K (.tuple #[.bool false]) σ)
    (hnext : ∀ k v σ', (k, v) ∈ l → k ∉ vis → Hs σ' X (Mp r (some (i, k :: vis)) l :: R) → K (.tuple #[.bool true, encK k, v]) σ') : kGen P (.nxt false ty) [.pointer (some ⟨i, 0, none⟩)] σ K := by
  obtain ⟨F, ⟨es, clk, rfl, h2, h3, h5, h6, seen, h7, h8, h9, h10⟩, hk⟩ := h.turn
  intro w hw
  have hh : w.heap[r]? = some (mapO es clk) := hw.m r _ h3
  have hi : w.heap[i]? = some (.mapIter (some r) clk seen clk) := hw.m i _ h7
  rcases run_next_at (P := P) w ty i r clk clk seen _ clk hi hh (fun x hx => by
    simp at hx
    obtain ⟨a, b, c, he, rfl⟩ := hx
    exact h2.lt _ he) (Nat.le_refl _) with ⟨h11, h12⟩ | ⟨e, he, w1, hw1, hrun⟩
  · refine ⟨_, w, h12, Out.same hw (hdone (fun p hp => ?_))⟩
    obtain ⟨e, he, rfl⟩ := List.mem_map.1 hp
    show e.1 ∈ vis
    rw [← h8 e he]
    have hsz : leftOf (es.map enE).toArray seen = #[] := Array.eq_empty_of_size_eq_zero h11
    unfold leftOf at hsz
    rw [Array.filter_eq_empty_iff] at hsz
    have := hsz (enE e) (by simp; exact ⟨e.1, e.2.1, e.2.2, he, rfl⟩)
    simpa [enE] using this
  · unfold leftOf at he
    simp at he
    obtain ⟨⟨a, b, c, hm, rfl⟩, hns⟩ := he
    have hs1 : Sat σ w1 := by
      rcases hw1 with rfl | rfl
      · exact hw
      · exact hw.drew
    have hkp : KeepP σ.live w w1 := by
      rcases hw1 with rfl | rfl
      · exact KeepP.refl _ _
      · exact KeepP.drewN _ _ 1
    refine ⟨_, _, hrun, ?_⟩
    obtain ⟨hs2, hk2⟩ := sat_set (o' := .mapIter (some r) clk (seen.push (enE (a, b, c)).born) clk) hs1 h7 rfl
    refine ⟨hkp.step hk2 (fun g hg => .inl hg), _, hs2, Fol.put _ _ _, hnext a b _ (List.mem_map.2 ⟨_, hm, rfl⟩) (fun hv => hns ((h8 _ hm).2 hv)) ?_⟩
    refine hk (F' := F) ((Chg.refl _ _).put (.inl (by rw [h5]; simp)) _) ⟨es, clk, rfl, h2, by rw [put_ne h6]; exact h3, h5, h6, _, by rw [put_eq, h7]; rfl, fun e he => ?_, fun s hs => ?_, fun e he hv => ?_⟩ (fun g hg => .inl hg)
    · simp only [Array.mem_push, List.mem_cons, h8 e he]
      constructor
      · rintro (hx | hx)
        · exact .inr hx
        · left
          by_cases heq : e = (a, b, c)
          · rw [heq]
          · exfalso
            have hx' : e.2.2 = c := hx
            have := h2.born
            rw [List.pairwise_iff_getElem] at this
            obtain ⟨x, hx1, rfl⟩ := List.getElem_of_mem he
            obtain ⟨y, hy1, hy2⟩ := List.getElem_of_mem hm
            rcases Nat.lt_trichotomy x y with hlt | rfl | hlt
            · have := this x y hx1 hy1 hlt; rw [hy2] at this; simp only at this; omega
            · exact heq hy2
            · have := this y x hy1 hx1 hlt; rw [hy2] at this; simp only at this; omega
      · rintro (hx | hx)
        · right
          have hx : e.1 = a := hx
          by_cases heq : e = (a, b, c)
          · rw [heq]; rfl
          · exfalso
            have := h2.keys
            rw [List.pairwise_iff_getElem] at this
            obtain ⟨x, hx1, rfl⟩ := List.getElem_of_mem he
            obtain ⟨y, hy1, hy2⟩ := List.getElem_of_mem hm
            rcases Nat.lt_trichotomy x y with hlt | rfl | hlt
            · have := this x y hx1 hy1 hlt; rw [hy2] at this; exact this hx
            · exact heq hy2
            · have := this y x hy1 hx1 hlt; rw [hy2] at this; exact this hx.symm
        · exact .inl hx
    · simp only [Array.mem_push] at hs
      rcases hs with hs | rfl
      · exact h9 s hs
      · exact h2.lt _ hm
    · simp only [List.head?_cons, Option.some.injEq] at hv
      refine ⟨seen, ?_⟩
      have heq : e = (a, b, c) := by
        by_cases heq : e = (a, b, c)
        · exact heq
        · exfalso
          have := h2.keys
          rw [List.pairwise_iff_getElem] at this
          obtain ⟨x, hx1, rfl⟩ := List.getElem_of_mem he
          obtain ⟨y, hy1, hy2⟩ := List.getElem_of_mem hm
          rcases Nat.lt_trichotomy x y with hlt | rfl | hlt
          · have := this x y hx1 hy1 hlt; rw [hy2] at this; exact this hv.symm
          · exact heq hy2
          · have := this y x hy1 hx1 hlt; rw [hy2] at this; exact this hv
      rw [heq]; rfl
theorem ent_by [KeyT κ] (h : Hs σ X (Mp r (some (i, k :: vis)) l :: R)) (hm : (k, v) ∈ l) (hK : K (.tuple #[encK k, v]) σ) : kGen P .ent [.pointer (some ⟨i, 0, none⟩)] σ K := by
  obtain ⟨F, ⟨es, clk, rfl, h2, h3, h5, h6, seen, h7, h8, h9, h10⟩, _⟩ := h.s
  intro w hw
  have hh : w.heap[r]? = some (mapO es clk) := hw.m r _ h3
  have hi : w.heap[i]? = some (.mapIter (some r) clk seen clk) := hw.m i _ h7
  obtain ⟨e, he, heq⟩ := List.mem_map.1 hm
  have e1 : e.1 = k := congrArg Prod.fst heq
  have e2 : e.2.1 = v := congrArg Prod.snd heq
  obtain ⟨s0, rfl⟩ := h10 e he (by simp [e1])
  have hb : ((es.map enE).map (·.born)).Nodup := by
    rw [List.map_map, List.Nodup, List.pairwise_map]
    exact h2.born.imp (fun hab he => by simp [enE] at he; omega)
  have := run_entry_at (P := P) w i r clk s0 _ clk (enE e) hi hh (by simp; exact ⟨e.1, e.2.1, e.2.2, he, rfl⟩) hb
  refine ⟨_, w, this, Out.same hw ?_⟩
  rw [← e1, ← e2] at hK
  exact hK
theorem Mp.over [KeyT κ] (h : Hs σ X (Mp r (some (i, vis)) l :: R)) : Hs σ X (Mp r none l :: R) := by
  obtain ⟨F, ⟨es, clk, rfl, h2, h3, h5, h6, _⟩, hk⟩ := h.turn
  exact hk (F' := [r]) (Chg.refl _ _) ⟨es, clk, rfl, h2, h3, rfl⟩ (fun g hg => .inl (by rw [h5]; simp at hg; simp [hg]))
theorem Mp.keys [KeyT κ] (h : Hs σ X (Mp r it l :: R)) : l.Pairwise (fun a b => a.1 ≠ b.1) := by
  obtain ⟨F, ⟨es, clk, rfl, h2, _⟩, _⟩ := h.s
  exact h2.keysV
theorem Hs.newMap [KeyT κ] (h : Hs σ X R) : Hs (σ.new (.other (.map #[] 0))) X (Mp (κ := κ) σ.n none [] :: R) :=
  h.more ((Chg.refl _ _).new _) ⟨[], 0, rfl, ⟨by simp, by simp, by simp⟩, new_eq_, rfl⟩ (by simp)
end
end Go.Proofs.YtdlimikcgdgfpaaGreatDoor.E
namespace Go.Proofs.YtdlimikcgdgfpaaGreatDoor.E
open Go.RowKit Go.Lib
def SepF (X : Ce) (σ : AS) : List Ck → List Nat → Prop
  | [], F => F = []
  | C :: R, F => ∃ F1 F2, F = F1 ++ F2 ∧ C.H F1 X σ ∧ (∀ g, g ∈ F1 → g ∉ F2) ∧ SepF X σ R F2
theorem SepF.loc {X X' : Ce} {σ σ' : AS} : ∀ {R : List Ck} {F : List Nat}, SepF X σ R F → Ce.le X X' → (∀ g, g ∈ F → σ'.m g = σ.m g) → SepF X' σ' R F
  | [], _, h, _, _ => h
  | C :: R, _, ⟨F1, F2, rfl, h1, h2, h3⟩, hx, hm => ⟨F1, F2, rfl, C.loc h1 hx (fun g hg => hm g (List.mem_append_left _ hg)), h2, h3.loc hx (fun g hg => hm g (List.mem_append_right _ hg))⟩
theorem SepF.live {X : Ce} {σ : AS} : ∀ {R : List Ck} {F : List Nat}, SepF X σ R F → ∀ g, g ∈ F → g < σ.n
  | [], _, h, g, hg => by rw [show _ = _ from h] at hg; cases hg
  | C :: R, _, ⟨F1, F2, rfl, h1, h2, h3⟩, g, hg => by
    rcases List.mem_append.1 hg with hg | hg
    · exact C.live h1 g hg
    · exact h3.live g hg
theorem Sep.split {X : Ce} {σ : AS} {R : List Ck} : ∀ {Cs : List Ck} {A : Nat → Prop}, Sep X σ (Cs ++ R) A → ∃ F, SepF X σ Cs F ∧ (∀ g, g ∈ F → ¬ A g) ∧ Sep X σ R (fun b => A b ∨ b ∈ F)
  | [], A, h => ⟨[], rfl, by simp, h.anti (fun g hg => hg.elim id (fun h => by cases h))⟩
  | C :: Cs, A, ⟨F1, h1, h2, h3⟩ => by
    obtain ⟨F2, h4, h5, h6⟩ := Sep.split h3
    refine ⟨F1 ++ F2, ⟨F1, F2, rfl, h1, fun g hg hg2 => h5 g hg2 (.inr hg), h4⟩, fun g hg => ?_, h6.anti (fun g hg => ?_)⟩
    · rcases List.mem_append.1 hg with hg | hg
      · exact h2 g hg
      · exact fun ha => h5 g hg (.inl ha)
    · rcases hg with hg | hg
      · exact .inl (.inl hg)
      · rcases List.mem_append.1 hg with hg | hg
        · exact .inl (.inr hg)
        · exact .inr hg
theorem Sep.unite {X : Ce} {σ : AS} {R : List Ck} : ∀ {Cs : List Ck} {A : Nat → Prop} {F : List Nat}, SepF X σ Cs F → (∀ g, g ∈ F → ¬ A g) → Sep X σ R (fun b => A b ∨ b ∈ F) → Sep X σ (Cs ++ R) A
  | [], A, F, h, _, h3 => h3.anti (fun g hg => .inl hg)
  | C :: Cs, A, _, ⟨F1, F2, rfl, h1, h2, h4⟩, hA, h3 => ⟨F1, h1, fun g hg => hA g (List.mem_append_left _ hg), Sep.unite h4 (fun g hg hg2 => by
      rcases hg2 with hg2 | hg2
      · exact hA g (List.mem_append_right _ hg) hg2
      · exact h2 g hg2 hg) (h3.anti (fun g hg => by
      rcases hg with (hg | hg) | hg
      · exact .inl hg
      · exact .inr (List.mem_append_left _ hg)
      · exact .inr (List.mem_append_right _ hg)))⟩
def Exs {α : Type} (p : α → Prop) (f : α → List Ck) : Ck := ⟨fun F X σ => ∃ a, p a ∧ SepF X σ (f a) F, fun ⟨a, h, h1⟩ hx hm => ⟨a, h, h1.loc hx hm⟩, fun ⟨a, _, h1⟩ => h1.live⟩
section
variable {α : Type} {p : α → Prop} {f : α → List Ck} {σ : AS} {X : Ce} {R : List Ck}
theorem Hs.opened (h : Hs σ X (Exs p f :: R)) : ∃ a, p a ∧ Hs σ X (f a ++ R) := by
  obtain ⟨F, ⟨a, h1, h2⟩, h3, h4⟩ := h.s
  exact ⟨a, h1, h.x, Sep.unite h2 h3 h4⟩
theorem Hs.closed (a : α) (hp : p a) (h : Hs σ X (f a ++ R)) : Hs σ X (Exs p f :: R) := by
  obtain ⟨F, h1, h2, h3⟩ := Sep.split h.s
  exact ⟨h.x, F, ⟨a, hp, h1⟩, h2, h3⟩
end
end Go.Proofs.YtdlimikcgdgfpaaGreatDoor.E
namespace Go.Proofs.YtdlimikcgdgfpaaGreatDoor.E
open Go.RowKit Go.Lib
def Oth (p : Nat) (o : Go.Obj) : Ck := ⟨fun F X σ => F = [p] ∧ σ.m p = some (.other o), fun ⟨h, h1⟩ _ hm => ⟨h, (hm _ (by rw [h]; simp)).trans h1⟩, fun ⟨h, h1⟩ g hg => by rw [h] at hg; simp at hg; subst hg; exact AS.lt h1⟩
section
variable {P : Program} {σ σ' : AS} {X : Ce} {R : List Ck} {C : Ck} {p : Nat} {o o' : Go.Obj} {k : Value → AS → Prop}
theorem Hs.oth (h : Hs σ X (Oth p o :: R)) : σ.m p = some (.other o) := by obtain ⟨_, ⟨_, h⟩, _⟩ := h.s; exact h
theorem Hs.putX (h : Hs σ X (Oth p o :: R)) : Hs (σ.put p (.other o')) X (Oth p o' :: R) := by
  obtain ⟨F, ⟨rfl, hm⟩, hk⟩ := h.turn
  exact hk ((Chg.refl _ _).put (.inl (by simp)) _) ⟨rfl, by rw [put_eq, hm]; rfl⟩ (fun g hg => .inl hg)
theorem Hs.newX (h : Hs σ X R) : Hs (σ.new (.other o)) X (Oth σ.n o :: R) := h.more ((Chg.refl _ _).new _) ⟨rfl, new_eq_⟩ (by simp)
theorem rngf_by {g : FuncId} {a b : List Value} {B : List Value → AS → (AS → (AS → Prop) → Prop) → (AS → Prop) → Prop} (ho : okFn P g = true)
    (h : ∀ (o o' : Go.Obj), (∀ args s k', s.m (σ.n + 1) = some (.other o) → B args s (fun s1 k1 => s1.m (σ.n + 1) = some (.other o) ∧ k1 (s1.put (σ.n + 1) (.other o'))) (fun s2 => s2.m (σ.n + 1) = some (.other o') ∧ k' (.bool true) (s2.put (σ.n + 1) (.other o))) → kYld P (σ.n + 1) args s k') →
      kCall P g (a ++ [.func (.yield (σ.n + 1)) #[] #[]] ++ b) ((σ.new (.other (.deferred (some [])))).new (.other o)) fun _ s => s.m (σ.n + 1) = some (.other o) ∧ ∀ o2, k (.int .i64 σ.n) (s.put (σ.n + 1) (.other o2))) :
    kRng P (.func (.func g) a.toArray b.toArray) B σ k := ⟨ho, h⟩
theorem fin1 {D : Nat} {K : AS → Prop} (h : σ.m D = some (.other (.deferred (some [])))) (hk : K (σ.put D (.other (.deferred none)))) : kFin P (valsOf (consM (.int .i64 D) undef)) σ K := ⟨h, hk⟩
theorem yld_by {l : Nat} {args : List Value} (h : kYld P l args σ k) : kCallv P (.func (.yield l) #[] #[]) args σ k := ⟨rfl, rfl, h⟩
variable {α : Type} [Rp α] {l ms : List α} {u v : Value}
theorem RepL.allX (h : RepL X u ms) (hx : Ce.le X σ.ld) : ∃ a cap, u = .slice a ms.length cap ∧ ms.length ≤ cap ∧ (ms = [] ∨ ∃ b o xs, a = some ⟨b, o, none⟩ ∧ ldsS σ b o (ms.length * Rp.sz α) = some xs ∧ RpL X ms xs) := by
  obtain ⟨a, b, o, cap, hv, h1, h2, hat⟩ := h.get
  refine ⟨a, cap, hv, h1, ?_⟩
  cases hms : ms with
  | nil => exact .inl rfl
  | cons m0 mr =>
    right
    obtain ⟨ha, _⟩ := hat 0 (by rw [hms]; simp)
    rw [← hms]
    refine ⟨b, o, ?_⟩
    have one : ∀ (cs : List Value) (n o : Nat), cs.length = n → (∀ j v, cs[j]? = some v → X b (o + j) = some v) → ldsS σ b o n = some cs := by
      intro cs
      induction cs with
      | nil => intro n o hn _; simp at hn; subst hn; rfl
      | cons v r ih =>
        intro n o hn hc
        simp at hn
        subst hn
        have h0 := hx _ _ _ (hc 0 v rfl)
        simp only [Nat.add_zero] at h0
        simp only [ldsS]
        rw [h0, Option.bind_some, ih r.length (o + 1) rfl (fun j u hu => by
          have := hc (j + 1) u (by simpa using hu)
          rw [show o + 1 + j = o + (j + 1) from by omega]; exact this)]
        rfl
    have key : ∀ (l : List α) (o : Nat), (∀ i (hi : i < l.length), ∃ cs, Rp.rp X l[i] cs ∧ ldsS σ b (o + i * Rp.sz α) (Rp.sz α) = some cs) → ∃ xs, ldsS σ b o (l.length * Rp.sz α) = some xs ∧ RpL X l xs := by
      intro l
      induction l with
      | nil => intro o _; exact ⟨[], by simp [ldsS], rfl⟩
      | cons a l ih =>
        intro o hh
        obtain ⟨cs, hc, hl⟩ := hh 0 (by simp)
        rw [Nat.zero_mul, Nat.add_zero] at hl
        obtain ⟨xs, hx, hr⟩ := ih (o + Rp.sz α) (fun i hi => by
          obtain ⟨cs, hc, hl⟩ := hh (i + 1) (by simpa using hi)
          exact ⟨cs, hc, by rw [show o + Rp.sz α + i * Rp.sz α = o + (i + 1) * Rp.sz α from by rw [Nat.add_mul]; omega]; exact hl⟩)
        refine ⟨cs ++ xs, ?_, cs, xs, rfl, hc, hr⟩
        rw [List.length_cons, show (l.length + 1) * Rp.sz α = Rp.sz α + l.length * Rp.sz α from by rw [Nat.add_mul]; omega]
        exact lds_add hl hx
    obtain ⟨xs, hx2, hr⟩ := key ms o (fun i hi => by
      obtain ⟨_, cs, h3, h4, h5⟩ := hat i hi
      exact ⟨cs, h3, one cs _ _ h4 h5⟩)
    exact ⟨xs, ha, hx2, hr⟩
theorem appL_by {t e : TypeId} {bytes : Nat} (h : Hs σ X (E.Own v l :: R)) (hr : RepL X u ms) (ht : P.underlying t = some (.slice e)) (hi : infB P e (Rp.sz α) bytes = true) (hlen : (l.length + ms.length) * bytes ≤ 140737488355328) (hlen' : l.length + ms.length ≤ maxLen)
    (hk : ∀ v' σ', Hs σ' X (E.Own v' (l ++ ms) :: R) → k v' σ') : kApp P t t v u σ k := by
  obtain ⟨a, cap, rfl, hcap, hms⟩ := hr.allX h.x
  obtain ⟨F, ⟨rfl, xs, h3, h4⟩, hk2⟩ := h.turn
  rcases hms with rfl | ⟨b, o, news, rfl, hn, hrl⟩
  · refine app0_by (sz := Rp.sz α) ht hi h3 ?_
    have := hk v σ (by rw [List.append_nil]; exact h)
    exact this
  · refine app_by ht hi h3 (news := news) hn hrl.ok hlen hlen' ?_
    intro v' σ' ho hc hg
    refine hk v' σ' (hk2 (F' := ownL v') hc ⟨rfl, xs ++ news, by rw [List.length_append]; exact ho, h4.append hrl⟩ (fun g hg' => ?_))
    rcases hg g hg' with h | h
    · exact .inl h
    · exact .inr (by omega)
end
end Go.Proofs.YtdlimikcgdgfpaaGreatDoor.E
namespace Go.Proofs.YtdlimikcgdgfpaaGreatDoor
open E
section
variable {X : Ce} {v : Value}
theorem strs_at {l : List Str} (h : RepL X v l) : ∃ a b o cap, v = .slice a l.length cap ∧ l.length ≤ cap ∧ cap ≤ maxLen ∧ ∀ i (hi : i < l.length), a = some ⟨b, o, none⟩ ∧ X b (o + i) = some (.string (bs l[i])) ∧ l[i].length ≤ maxLen := by
  obtain ⟨a, b, o, cap, h1, h2, h3, h4⟩ := h.get
  refine ⟨a, b, o, cap, h1, h2, h3, fun i hi => ?_⟩
  obtain ⟨h5, cs, ⟨rfl, h6⟩, _, h7⟩ := h4 i hi
  exact ⟨h5, by have := h7 0 _ rfl; simpa [Rp.sz] using this, h6⟩
end
end Go.Proofs.YtdlimikcgdgfpaaGreatDoor
namespace Go.Proofs.YtdlimikcgdgfpaaGreatDoor.E
open Go.RowKit
section
variable {P : Program} {σ : AS} {w w' : World}
theorem Sat.below (hw : Sat σ w) (hb : Below w.heap.size w w') : Sat (σ.up (size w' - size w)) w' := by
  have hs := hb.size
  have hsz := hw.sz
  refine ⟨?_, fun g ob hg => obAt_congr (hb.block g ?_) (hw.m g ob hg), fun b o v hv => ?_⟩
  · rw [up_n, ← hsz]; simp only [size] at hs ⊢; omega
  · have : g < σ.n := AS.lt hg
    simp only [size] at hsz; omega
  · have : b < σ.n := AS.ltc hv
    rw [hb.cell (by simp only [size] at hsz; show b < _; omega)]
    exact hw.c b o v hv
theorem KeepP.ofBelow {S : Nat → Prop} (hb : Below w.heap.size w w') : KeepP S w w' := ⟨hb.os, hb.tape, hb.output, hb.size, fun k hk _ => hb.block k hk⟩
theorem below_by {f : Nat} {args : List Value} {v : Value} {k : Value → AS → Prop} (h : ∀ w, Sat σ w → Calls P f args.toArray w fun e w' => e = .returned v ∧ Below w.heap.size w w') (hk : ∀ j, k v (σ.up j)) : kCall P f args σ k := by
  intro w hw
  refine Calls.mono (h w hw) fun e w' ⟨he, hb⟩ => ⟨v, he, KeepP.ofBelow hb, _, hw.below hb, Fol.up _ _, hk _⟩
theorem below_ex {f : Nat} {args : List Value} {Q : Value → Prop} {k : Value → AS → Prop} (h : ∀ w, Sat σ w → Calls P f args.toArray w fun e w' => (∃ v, e = .returned v ∧ Q v) ∧ Below w.heap.size w w') (hk : ∀ v j, Q v → k v (σ.up j)) : kCall P f args σ k := by
  intro w hw
  refine Calls.mono (h w hw) fun e w' ⟨⟨v, he, hq⟩, hb⟩ => ⟨v, he, KeepP.ofBelow hb, _, hw.below hb, Fol.up _ _, hk _ _ hq⟩
end
end Go.Proofs.YtdlimikcgdgfpaaGreatDoor.E
namespace Go.Proofs.YtdlimikcgdgfpaaGreatDoor.E
theorem grd_or {s : AS} {a b : Bool} {X : (List Value → AS → Prop) → Prop} {K : AS → Value → Prop} (hX : a = false → ∀ k' : List Value → AS → Prop, k' [.bool b] s → X k') (hK : K s (.bool (a || b))) :
    kGrd (.bool a) false X [undef] s fun xs s => un1 xs fun v => kPick (.bool a) (.bool true) v (K s) := by
  cases a with
  | true => exact hK
  | false => exact hX rfl _ hK
theorem grd_and {s : AS} {a b : Bool} {X : (List Value → AS → Prop) → Prop} {K : AS → Value → Prop} (hX : a = true → ∀ k' : List Value → AS → Prop, k' [.bool b] s → X k') (hK : K s (.bool (a && b))) :
    kGrd (.bool a) true X [undef] s fun xs s => un1 xs fun v => kPick (.bool a) v (.bool false) (K s) := by
  cases a with
  | false => exact hK
  | true => exact hX rfl _ hK
end Go.Proofs.YtdlimikcgdgfpaaGreatDoor.E
namespace Go.Proofs.YtdlimikcgdgfpaaGreatDoor
open E Go.Lib
open Go.RowKit
section
variable {α : Type} [Rp α] {X : Ce} {σ : AS} {R : List Ck} {u : Value}
theorem RpL.set : ∀ {L : List α} {xs : List Value} {n : Nat} (hn : n < L.length), RpL X L xs →
    ∃ cs, Rp.rp X L[n] cs ∧ (∀ j v, cs[j]? = some v → xs[n * Rp.sz α + j]? = some v) ∧ (n + 1) * Rp.sz α ≤ xs.length ∧ ∀ j v a', j < Rp.sz α → Rp.rp X a' (cs.set j v) → RpL X (L.set n a') (xs.set (n * Rp.sz α + j) v)
  | a :: L, _, 0, _, ⟨x, y, rfl, h1, h2⟩ => by
    have hl := Rp.len h1
    refine ⟨x, h1, fun j v hv => ?_, by rw [List.length_append]; omega, fun j v a' hj ha => ?_⟩
    · rw [Nat.zero_mul, Nat.zero_add, List.getElem?_append_left (List.getElem?_eq_some_iff.1 hv).1]; exact hv
    · rw [Nat.zero_mul, Nat.zero_add, List.set_append_left _ _ (by omega)]
      exact ⟨_, _, rfl, ha, h2⟩
  | a :: L, _, n + 1, hn, ⟨x, y, rfl, h1, h2⟩ => by
    have hl := Rp.len h1
    obtain ⟨cs, g1, g2, g3, g4⟩ := RpL.set (n := n) (by simpa using hn) h2
    have e : ∀ j, (n + 1) * Rp.sz α + j = x.length + (n * Rp.sz α + j) := fun j => by rw [hl, Nat.succ_mul]; omega
    refine ⟨cs, by simpa using g1, fun j v hv => ?_, by rw [List.length_append, hl, Nat.succ_mul]; omega, fun j v a' hj ha => ?_⟩
    · rw [e, List.getElem?_append_right (by omega), show x.length + (n * Rp.sz α + j) - x.length = n * Rp.sz α + j from by omega]
      exact g2 j v hv
    · rw [e, List.set_append_right _ _ (by omega), show x.length + (n * Rp.sz α + j) - x.length = n * Rp.sz α + j from by omega]
      exact ⟨_, _, rfl, h1, g4 j v a' hj ha⟩
theorem Own.cell {L : List α} {n : Nat} (h : Hs σ X (E.Own u L :: R)) (hn : n < L.length) : ∃ g c cs ys, u = .slice (some ⟨g, 0, none⟩) L.length c ∧ L.length ≤ c ∧ c ≤ maxLen ∧ Rp.rp X L[n] cs ∧ σ.m g = some (.cells ys) ∧ (n + 1) * Rp.sz α ≤ ys.length ∧
    (∀ j v, cs[j]? = some v → ys[n * Rp.sz α + j]? = some v) ∧ ∀ j v a', j < Rp.sz α → Rp.rp X a' (cs.set j v) → Hs (σ.put g (.cells (ys.set (n * Rp.sz α + j) v))) X (E.Own u (L.set n a') :: R) := by
  obtain ⟨F, ⟨rfl, xs, h1, h2⟩, hk⟩ := h.turn
  obtain ⟨cs, g1, g2, g3, g4⟩ := RpL.set hn h2
  rcases h1 with ⟨rfl, h0, _⟩ | ⟨g, c, sp, rfl, hm, hx, hcl, hle, hcm⟩
  · omega
  · refine ⟨g, c, cs, xs ++ sp, rfl, hle, hcm, g1, hm, by rw [List.length_append]; omega, fun j v hv => ?_, fun j v a' hj ha => ?_⟩
    · have := g2 j v hv
      rw [List.getElem?_append_left (List.getElem?_eq_some_iff.1 this).1]; exact this
    · have hlt : n * Rp.sz α + j < xs.length := by rw [Nat.succ_mul] at g3; omega
      rw [List.set_append_left _ _ hlt]
      refine hk (F' := ownL (.slice (some ⟨g, 0, none⟩) L.length c)) ((Chg.refl _ _).put (.inl (by simp [ownL])) _) ⟨rfl, xs.set (n * Rp.sz α + j) v, .inr ⟨g, c, sp, by rw [List.length_set], by rw [put_eq, hm]; rfl, by rw [List.length_set, List.length_set]; exact hx, by rw [List.length_append, List.length_set, ← List.length_append]; exact hcl, by rw [List.length_set]; exact hle, hcm⟩, g4 j v a' hj ha⟩ (fun g hg => .inl hg)
end
end Go.Proofs.YtdlimikcgdgfpaaGreatDoor
namespace Go.Proofs.YtdlimikcgdgfpaaGreatDoor
open E Go.Lib
open Go.RowKit
section
variable {α : Type} [Rp α] {X : Ce} {σ : AS} {R : List Ck} {u : Value}
theorem Own.elem {L : List α} {n : Nat} (h : Hs σ X (E.Own u L :: R)) (hn : n < L.length) : ∃ g c ys, u = .slice (some ⟨g, 0, none⟩) L.length c ∧ L.length ≤ c ∧ c ≤ maxLen ∧ σ.m g = some (.cells ys) ∧ n * Rp.sz α + Rp.sz α ≤ ys.length ∧
    ∀ a' cs, Rp.rp X a' cs → Hs (σ.put g (.cells (ys.take (n * Rp.sz α) ++ cs ++ ys.drop (n * Rp.sz α + Rp.sz α)))) X (E.Own u (L.set n a') :: R) := by
  obtain ⟨F, ⟨rfl, xs, h1, h2⟩, hk⟩ := h.turn
  have hl := h2.len
  have hnn : n * Rp.sz α + Rp.sz α ≤ xs.length := by
    rw [hl, ← Nat.succ_mul]
    exact Nat.mul_le_mul_right _ hn
  rcases h1 with ⟨rfl, h0, _⟩ | ⟨g, c, sp, rfl, hm, hx, hcl, hle, hcm⟩
  · omega
  · refine ⟨g, c, xs ++ sp, rfl, hle, hcm, hm, by rw [List.length_append]; omega, fun a' cs ha => ?_⟩
    have hcs := Rp.len ha
    have e : (xs ++ sp).take (n * Rp.sz α) ++ cs ++ (xs ++ sp).drop (n * Rp.sz α + Rp.sz α) = (xs.take (n * Rp.sz α) ++ cs ++ xs.drop (n * Rp.sz α + Rp.sz α)) ++ sp := by
      rw [List.take_append_of_le_length (by omega), List.drop_append_of_le_length (by omega)]
      simp only [List.append_assoc]
    rw [e]
    have hlen : (xs.take (n * Rp.sz α) ++ cs ++ xs.drop (n * Rp.sz α + Rp.sz α)).length = xs.length := by
      simp only [List.length_append, List.length_take, List.length_drop]; omega
    refine hk (F' := ownL (.slice (some ⟨g, 0, none⟩) L.length c)) ((Chg.refl _ _).put (.inl (by simp [ownL])) _) ⟨rfl, _, .inr ⟨g, c, sp, by rw [List.length_set], by rw [put_eq, hm]; rfl, by rw [List.length_set, hlen]; exact hx, by rw [List.length_append, hlen, ← List.length_append]; exact hcl, by rw [List.length_set]; exact hle, hcm⟩, E.RpL.set h2 n hn ha⟩ (fun g hg => .inl hg)
end
end Go.Proofs.YtdlimikcgdgfpaaGreatDoor
namespace Go.Proofs.YtdlimikcgdgfpaaGreatDoor.E
open Go.RowKit Go.Lib
inductive L1 where
  | i (k : IntKind) (n : Int)
  | b (x : Bool)
  | s (l : List UInt8)
  deriving DecidableEq
inductive Kd where
  | i (k : IntKind)
  | b
  | s
def L1.kd : L1 → Kd
  | .i k _ => .i k
  | .b _ => .b
  | .s _ => .s
end Go.Proofs.YtdlimikcgdgfpaaGreatDoor.E
namespace Go.Proofs.YtdlimikcgdgfpaaGreatDoor.E
open Go.RowKit Go.Lib Go.MapKept
section
variable {P : Program} {k : Value → AS → Prop} {σ : AS} {X : Ce} {R : List Ck} {t u : TypeId} {x v : Value} {f : FuncId} {r : Nat}
theorem mki_by (h : P.concrete t = true) (hk : k (.iface t x) σ) : kGen P (.mki t) [x] σ k := by
  intro w hw
  refine ⟨_, w, ?_, Out.same hw hk⟩
  exact run_makeInterface w t x h
theorem tas_by (h : P.concrete u = true) (hk : k v σ) : kGen P (.tas t u false) [.iface u v] σ k := by
  intro w hw
  refine ⟨_, w, ?_, Out.same hw hk⟩
  unfold Program.concrete at h
  show (Instr.typeAssert (.iface u v) t u false).run P w = .ok v w
  cases hd : P.underlying u with
  | none => simp [hd] at h
  | some d => cases d <;> first | (simp [hd] at h; done) | simp [Instr.typeAssert, run_underlying hd]
theorem cln_by {κ : Type} [KeyT κ] {l : List (κ × Value)} (h1 : extB P f = true) (he : (P.funcs[f]?).bind Extern.find = some Extern.MapsClone.clone) (h : Hs σ X (Mp r none l :: R))
    (hk : ∀ q σ', Hs σ' X (Mp q none l :: Mp r none l :: R) → k (.iface t (.map (some q))) σ') : kGen P (.ext f) [.iface t (.map (some r))] σ k := by
  obtain ⟨F, ⟨es, clk, rfl, h2, h3, h4⟩, _⟩ := h.s
  intro w hw
  have hh : w.heap[r]? = some (mapO es clk) := hw.m r _ h3
  have hs := hw.new_ (o := mapO es clk) (ob := .other (mapO es clk)) (fun _ he => he)
  have hz : w.heap.size = σ.n := hw.sz
  unfold extB at h1
  split at h1
  · rename_i fn hf
    simp only [Bool.and_eq_true, Bool.not_eq_true', Option.isNone_iff_eq_none] at h1
    obtain ⟨⟨g1, g2⟩, g3⟩ := h1
    rw [hf, Option.bind_some] at he
    refine ⟨.iface t (.map (some w.heap.size)), w.alloc (mapO es clk), ?_, ?_⟩
    · have e : Extern.MapsClone.clone #[.iface t (.map (some r))] = (getObj r >>= fun o => match o with
          | .map entries clock => (newObj (.map entries clock) >>= fun n => pure (.iface t (.map (some n))))
          | _ => stuck "maps.clone: a map expected") := rfl
      have e2 : (Extern.MapsClone.clone #[.iface t (.map (some r))]).run P w = .ok (.iface t (.map (some w.heap.size))) (w.alloc (mapO es clk)) := by
        rw [e]
        unfold mapO at hh ⊢
        simp [MapKept.run_getObj_map hh, Result.andThen, go_sem]
      simp only [lkSem, Sem.run_bind, run_callFunc_extern hf g1 (by rw [g2]; rfl) g3 he, e2, Result.andThen_ok, Sem.run_pure]
    · rw [hz]
      refine ⟨KeepP.alloc _ _ _, _, hs, Fol.new _ _, hk _ _ ?_⟩
      exact h.more ((Chg.refl _ _).new _) ⟨es, clk, rfl, h2, new_eq_, rfl⟩ (by simp)
  · cases h1
end
end Go.Proofs.YtdlimikcgdgfpaaGreatDoor.E
namespace Go.Proofs.YtdlimikcgdgfpaaGreatDoor
open E
section
variable {α : Type} {f : α → List Value} {z : Nat} {L : List α} {sp : List Value} {a a' : α} {i j : Nat} {v : Value}
def flat (f : α → List Value) (L : List α) (sp : List Value) : List Value := (L.map f).flatten ++ sp
theorem flat_len (hf : ∀ a, (f a).length = z) : (flat f L sp).length = L.length * z + sp.length := by
  unfold flat
  rw [List.length_append]
  congr 1
  induction L with
  | nil => simp
  | cons a L ih => rw [List.map_cons, List.flatten_cons, List.length_append, ih, hf, List.length_cons, Nat.succ_mul, Nat.add_comm]
theorem flat_split (hf : ∀ a, (f a).length = z) (hi : L[i]? = some a) : flat f L sp = (flat f (L.take i) []) ++ f a ++ flat f (L.drop (i + 1)) sp ∧ (flat f (L.take i) []).length = i * z := by
  have hlt := (List.getElem?_eq_some_iff.1 hi).1
  refine ⟨?_, ?_⟩
  · unfold flat
    conv => lhs; rw [← List.take_append_drop i L, List.drop_eq_getElem_cons hlt, (List.getElem?_eq_some_iff.1 hi).2]
    simp
  · rw [flat_len hf, List.length_take, List.length_nil]; rw [Nat.min_eq_left (by omega), Nat.add_zero]
theorem flat_get (hf : ∀ a, (f a).length = z) (hi : L[i]? = some a) (hj : j < z) : (flat f L sp)[i * z + j]? = (f a)[j]? := by
  obtain ⟨h1, h2⟩ := flat_split (sp := sp) hf hi
  rw [h1, List.append_assoc, List.getElem?_append_right (by omega), h2, List.getElem?_append_left (by rw [hf]; omega)]
  congr 1; omega
end
end Go.Proofs.YtdlimikcgdgfpaaGreatDoor
namespace Go.Proofs.YtdlimikcgdgfpaaGreatDoor.E
open Go.RowKit Go.Lib
open Rp
def startT (w : World) (gs : List Nat) : AS := ⟨fun g => if g ∈ gs then (w.heap[g]?).map .other else none, fun b o => if b ∈ gs then none else w.cell? ⟨b, o, none⟩, size w,
  fun g h => by
    by_cases hg : g ∈ gs
    · rw [if_pos hg] at h
      cases hc : w.heap[g]? with
      | none => rw [hc] at h; exact absurd rfl h
      | some o => exact (Array.getElem?_eq_some_iff.1 hc).1
    · rw [if_neg hg] at h; exact absurd rfl h,
  fun b o h => by
    by_cases hb : b ∈ gs
    · rw [if_pos hb] at h; exact absurd rfl h
    · rw [if_neg hb] at h
      refine ⟨?_, if_neg hb⟩
      cases hc : w.cell? ⟨b, o, none⟩ with
      | none => exact (h hc).elim
      | some v => exact block_lt_of_cell hc⟩
section
variable {P : Program} {f : Nat} {args : List Value} {w : World} {gs : List Nat} {g : Nat} {o : Go.Obj} {σ : AS} {X : Ce} {R : List Ck}
theorem sat_startT : Sat (startT w gs) w := by
  refine ⟨rfl, fun g ob h => ?_, fun b o v h => ?_⟩
  · unfold startT at h
    simp only at h
    split at h
    · cases hc : w.heap[g]? with
      | none => rw [hc] at h; cases h
      | some o => rw [hc] at h; cases h; exact hc
    · cases h
  · unfold startT at h
    simp only at h
    split at h
    · cases h
    · exact h
theorem startT_m (hg : g ∈ gs) (ho : w.heap[g]? = some o) : (startT w gs).m g = some (.other o) := by
  unfold startT
  simp only
  rw [if_pos hg, ho]
  rfl
theorem law_okT (h : kCall P f args (startT w gs) fun v σ' => v = .bool true ∧ ∀ g o, g ∈ gs → w.heap[g]? = some o → σ'.m g = some (.other o)) : callP P f args w fun v w' => v = .bool true ∧ KeepP (fun _ => False) w w' :=
  callP_mono (h w sat_startT) fun v w' ⟨h1, σ', h2, _, h3, h4⟩ => ⟨h3, ⟨h1.os, h1.tape, h1.output, h1.sz, fun k hk _ => by
    by_cases hl : (startT w gs).live k
    · have hg : k ∈ gs := by
        by_cases hg : k ∈ gs
        · exact hg
        · exfalso
          apply hl
          unfold startT
          simp only
          rw [if_neg hg]
      have hs : k < w.heap.size := hk
      have ho : w.heap[k]? = some w.heap[k] := by simp [hs]
      have := h2.m k _ (h4 k _ hg ho)
      rw [ho]
      exact this
    · exact h1.heap k hk hl⟩⟩
theorem Hs.startT0 : Hs (startT w gs) (startT w gs).c [] := ⟨c_le_ld, trivial⟩
theorem Hs.withT (h : Hs σ X R) (hm : σ.m g = some (.other o)) (hx : ¬ inX X g) (hd : ∀ C, C ∈ R → ∀ F X' σ', C.H F X' σ' → g ∉ F) : Hs σ X (Oth g o :: R) := by
  have gen : ∀ (R : List Ck) (A : Nat → Prop), (∀ C, C ∈ R → ∀ F X' σ', C.H F X' σ' → g ∉ F) → Sep X σ R A → Sep X σ R (fun b => A b ∨ b ∈ [g]) := by
    intro R
    induction R with
    | nil => intro _ _ _; trivial
    | cons C R ih =>
      intro A hd ⟨F, h1, h2, h3⟩
      have hgF := hd C (by simp) F X σ h1
      refine ⟨F, h1, fun b hb hA => ?_, ?_⟩
      · rcases hA with hA | hA
        · exact h2 b hb hA
        · simp only [List.mem_singleton] at hA; subst hA; exact hgF hb
      · exact (ih _ (fun C' hC' => hd C' (by simp [hC'])) h3).anti (fun b hb => by
          rcases hb with (hb | hb) | hb
          · exact .inl (.inl hb)
          · exact .inr hb
          · exact .inl (.inr hb))
  refine ⟨h.x, [g], ⟨rfl, hm⟩, fun b hb hi => ?_, gen R _ hd h.s⟩
  simp only [List.mem_singleton] at hb
  subst hb
  exact hx hi
theorem notX (hg : g ∈ gs) : ¬ inX (startT w gs).c g := by
  rintro ⟨o, ho⟩
  apply ho
  unfold startT
  simp only
  rw [if_pos hg]
end
def dataV : Value → Prop
  | .int .u64 _ => False
  | .iface _ _ => False
  | .nilIface => False
  | _ => True
class OffT (α : Type) [Rp α] : Prop where
  off : ∀ {w : World} {gs : List Nat} {a : α} {cs : List Value}, (∀ g o v, g ∈ gs → w.cell? ⟨g, o, none⟩ = some v → ¬ dataV v) → rp (start w).c a cs → rp (startT w gs).c a cs ∧ ∀ v, v ∈ cs → dataV v
instance : OffT Int := ⟨fun _ h => ⟨h, fun v hv => by rw [h.1] at hv; simp at hv; subst hv; exact trivial⟩⟩
instance : OffT UInt8 := ⟨fun _ h => ⟨h, fun v hv => by rw [show _ = _ from h] at hv; simp at hv; subst hv; exact trivial⟩⟩
instance : OffT Bool := ⟨fun _ h => ⟨h, fun v hv => by rw [show _ = _ from h] at hv; simp at hv; subst hv; exact trivial⟩⟩
instance (priority := high) : OffT Str := ⟨fun _ h => ⟨h, fun v hv => by rw [h.1] at hv; simp at hv; subst hv; exact trivial⟩⟩
instance {α β : Type} [Rp α] [Rp β] [ha : OffT α] [hb : OffT β] : OffT (α × β) := ⟨fun hg ⟨x, y, h, h1, h2⟩ => by
  obtain ⟨k1, k2⟩ := ha.off hg h1
  obtain ⟨k3, k4⟩ := hb.off hg h2
  refine ⟨⟨x, y, h, k1, k3⟩, fun v hv => ?_⟩
  rw [h] at hv
  rcases List.mem_append.1 hv with hv | hv
  · exact k2 v hv
  · exact k4 v hv⟩
theorem RepL.offT {α : Type} [Rp α] [ha : OffT α] {w : World} {gs : List Nat} {v : Value} {l : List α} (hg : ∀ g o v, g ∈ gs → w.cell? ⟨g, o, none⟩ = some v → ¬ dataV v) (h : RepL (start w).c v l) : RepL (startT w gs).c v l := by
  obtain ⟨a, cap, h1, h2, h3, h4⟩ := h
  refine ⟨a, cap, h1, h2, h3, ?_⟩
  rcases h4 with h4 | ⟨b, o, h5, h6⟩
  · exact .inl h4
  · refine .inr ⟨b, o, h5, fun i hi => ?_⟩
    obtain ⟨cs, k1, k2⟩ := h6 i hi
    obtain ⟨k3, k4⟩ := ha.off hg k1
    refine ⟨cs, k3, fun j u hu => ?_⟩
    have hc : w.cell? ⟨b, o + i * sz α + j, none⟩ = some u := k2 j u hu
    have hb : b ∉ gs := fun hb => hg b _ u hb hc (k4 u (List.mem_of_getElem? hu))
    show (if b ∈ gs then none else w.cell? ⟨b, o + i * sz α + j, none⟩) = some u
    rw [if_neg hb]
    exact hc
instance {α : Type} [Rp α] [OffT α] : OffT (List α) := ⟨fun hg ⟨v, h, h1⟩ => ⟨⟨v, h, h1.offT hg⟩, fun u hu => by
  obtain ⟨a, cap, h2, _⟩ := h1
  rw [h, h2] at hu
  simp at hu
  subst hu
  exact trivial⟩⟩
def VarAt (P : Program) (name : String) (g : Nat) (o : Go.Obj) (cs : Array Value) : Prop := P.globalNamed name = some g ∧ ∃ t fz, o = .cells cs t fz
section
variable {P : Program} {w w' : World} {g : Nat} {o : Go.Obj} {cs : Array Value} {name : String} {σ : AS} {X : Ce} {R : List Ck}
theorem VarAt.of (h : w.var? P name = some cs) : ∃ g o, VarAt P name g o cs ∧ w.heap[g]? = some o := by
  unfold World.var? at h
  cases hg : P.globalNamed name with
  | none => rw [hg] at h; cases h
  | some g =>
    rw [hg] at h
    simp only [Option.bind_some] at h
    cases ho : w.heap[g]? with
    | none => rw [ho] at h; cases h
    | some o =>
      rw [ho] at h
      cases o with
      | cells c t fz =>
        simp only [Option.some.injEq] at h
        subst h
        exact ⟨g, _, ⟨hg, t, fz, rfl⟩, ho⟩
      | _ => cases h
theorem VarAt.var (h : VarAt P name g o cs) (ho : w.heap[g]? = some o) : w.var? P name = some cs := by
  obtain ⟨h1, t, fz, rfl⟩ := h
  unfold World.var?
  rw [h1]
  simp only [Option.bind_some, ho]
theorem VarAt.cell (h : VarAt P name g o cs) (ho : w.heap[g]? = some o) {i : Nat} {v : Value} (hv : w.cell? ⟨g, i, none⟩ = some v) : v ∈ cs.toList := by
  obtain ⟨h1, t, fz, rfl⟩ := h
  unfold World.cell? at hv
  simp only [ho] at hv
  simp only [Option.isSome_none, Bool.false_eq_true, if_false] at hv
  exact Array.mem_toList_iff.2 (Array.mem_of_getElem? hv)
theorem Hs.heapT (h : Hs σ X (Oth g o :: R)) (hw : Sat σ w) : w.heap[g]? = some o := hw.m g _ h.oth
end
end Go.Proofs.YtdlimikcgdgfpaaGreatDoor.E
namespace Go.Proofs.YtdlimikcgdgfpaaGreatDoor.E
open Go.RowKit Go.Lib
section
variable {P : Program} {K : Value → AS → Prop} {σ : AS} {X : Ce} {R : List Ck} {t u : TypeId} {q pos : Nat} {s : List UInt8}
theorem rngS_by (ht : P.underlying t = some .string) (h : Hs σ X R) (hk : ∀ σ', Hs σ' X (Oth σ.n (.stringIter (bs s) 0) :: R) → K (.pointer (some ⟨σ.n, 0, none⟩)) σ') : kGen P (.rng t) [.string (bs s)] σ K := by
  intro w hw
  have hs := hw.new_ (o := .stringIter (bs s) 0) (ob := .other (.stringIter (bs s) 0)) (fun _ he => he)
  have hz : w.heap.size = σ.n := hw.sz
  refine ⟨_, _, run_range_string w t (bs s) ht, ?_⟩
  rw [hz]
  exact ⟨KeepP.alloc _ _ _, _, hs, Fol.new _ _, hk _ h.newX⟩
theorem nxtS_by {ty : TypeId} (h : Hs σ X (Oth q (.stringIter (bs s) pos) :: R)) (hdone : s.length ≤ pos → K (.tuple #[.bool false]) σ)
    (hnext : ∀ (r : Int) (pos' : Nat) σ', pos < s.length → pos < pos' → 0 ≤ r → r ≤ 2147483647 → Hs σ' X (Oth q (.stringIter (bs s) pos') :: R) → K (.tuple #[.bool true, .int .i64 pos, .int .i32 r]) σ') :
    kGen P (.nxt true ty) [.pointer (some ⟨q, 0, none⟩)] σ K := by
  have hm := h.oth
  intro w hw
  have hh : w.heap[q]? = some (.stringIter (bs s) pos) := hw.m q _ hm
  have hsz : (bs s).size = s.length := bs_size s
  by_cases hp : pos < (bs s).size
  · refine ⟨_, _, run_next_any_at w q (bs s) pos ty hh hp, ?_⟩
    have h1 : 1 ≤ (Utf8.decode (bs s) pos).2 := by
      by_cases ha : ((bs s)[pos]'hp).toNat < 128
      · rw [decode_ascii _ _ hp ha]; exact Nat.le_refl _
      · exact (decode_high _ _ hp (by omega)).2
    refine out_set hw hm (hnext _ (pos + (Utf8.decode (bs s) pos).2) _ (by omega) (by omega) (by omega) (by have := decode_le (bs s) pos; omega) ?_)
    exact h.putX
  · exact ⟨_, _, run_next_end_at w q (bs s) pos ty hh hp, Out.same hw (hdone (by omega))⟩
theorem cvr_by {r : Int} (hs : (P.underlying t).isSome = true) (hd : P.underlying u = some .string) (hv : Utf8.valid r = true) (h128 : 128 ≤ r)
    (hk : ∀ l : List UInt8, 2 ≤ l.length → l.length ≤ 4 → (∀ b, l[l.length - 1]? = some b → 128 ≤ b.toNat) → K (.string (bs l)) σ) : kGen P (.cv t u) [.int .i32 r] σ K := by
  intro w hw
  refine ⟨_, w, run_convert_int_string w t u .i32 r hs hd, Out.same hw ?_⟩
  obtain ⟨h1, h2, h3⟩ := encode_facts r hv h128
  have e : Utf8.encode r = bs (Utf8.encode r).data.toList := by simp [bs]
  have el : (Utf8.encode r).size = (Utf8.encode r).data.toList.length := by simp
  have := hk (Utf8.encode r).data.toList (by omega) (by omega) (fun b hb => by
    have h4 := h3 (by omega)
    have e5 : (Utf8.encode r)[(Utf8.encode r).size - 1]'(by omega) = b := by
      rw [← el] at hb
      have := Go.Lib.data_getElem? (Utf8.encode r) ((Utf8.encode r).size - 1) (by omega)
      rw [this] at hb
      exact Option.some.inj hb
    rw [e5] at h4
    exact h4)
  rw [← e] at this
  exact this
end
end Go.Proofs.YtdlimikcgdgfpaaGreatDoor.E
