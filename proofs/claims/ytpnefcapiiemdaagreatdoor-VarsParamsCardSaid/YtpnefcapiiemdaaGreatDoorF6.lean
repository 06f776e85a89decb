/- The rules by which a walk goes on. Conditions: none. -/
import Derived.Test.YtpnefcapiiemdaaGreatDoorF3
import Derived.Maps.AppendAt
namespace Go.Proofs.YtpnefcapiiemdaaGreatDoor.E
open Go.RowKit

section
variable {P : Program} {s σ : AS} {k : Value → Prop} {kk : Value → AS → Prop}
/-- A value, or nothing: what comes behind it. -/
def seqA {α : Type} (o : Option α) (k : α → Prop) (_ : Dm k := ()) : Prop := seqO o k
theorem seqA_some {α : Type} (v : α) (k : α → Prop) : seqA (some v) k = k v := rfl

/-! ### Steps -/
/-- A join at which simp stands still. -/
def kStop (J : List Value → AS → Prop) (B : (List Value → AS → Prop) → Prop) (_ : Dm J := ()) (_ : Dm B := ()) : Prop := B J
theorem w_stop (J : List Value → AS → Prop) (B : (List Value → AS → Prop) → Prop) : kJoin J B = kStop J B := id rfl
theorem w_join (J : List Value → AS → Prop) (B : (List Value → AS → Prop) → Prop) : kJoin J B = B J := id rfl
theorem w_bin (op : BinOp) (x y : Value) : kBin op x y k = seqA (binV op x y) k := rfl
theorem w_sft (op : BinOp) (x y : Value) : kSft op x y k = seqA (sftV op x y) k := rfl
theorem w_eq (kd : Nat) (neg : Bool) (x y : Value) : kEq kd neg x y k = seqA ((eqV kd x y).map fun b => .bool (b != neg)) k := by
  unfold kEq; cases eqV kd x y <;> rfl
theorem w_eqi (neg : Bool) (x y : Value) : kEqi neg x y k = seqA ((eqI x y).map fun b => .bool (b != neg)) k := by
  unfold kEqi; cases eqI x y <;> rfl
theorem w_un (op : UnOp) (x : Value) : kUn op x k = seqA (unV op x) k := rfl
theorem w_ld (x : Value) : kLd s x k = seqA (ldS s x) k := rfl
theorem w_ldN (n : Nat) (x : Value) : kLdN s n x k = seqA (ldNS s n x) k := rfl
theorem w_st (n : Nat) (x y : Value) (K : AS → Prop) : kSt s n x y K = seqA (stS s n x y) K := rfl
theorem w_build (z : List Value) (ps : List (Nat × Nat × Value)) : kBuild z ps k = seqA ((lay z ps).map fun l => .agg l.toArray) k := by
  unfold kBuild; cases lay z ps <;> rfl
theorem w_bsl (n : Nat) (z : List Value) (ps : List (Nat × Nat × Value)) : kBsl s n z ps kk = seqA (lay z ps) fun l => kk (.slice (some ⟨s.n, 0, none⟩) n n) (s.new (.cells l)) := rfl
theorem w_nck (x : Value) : kNck x k = seqA (nckV x) k := rfl
theorem w_fld (off : Nat) (x : Value) : kFld off x k = seqA (fldV off x) k := rfl
theorem w_get (off : Nat) (x : Value) : kGet off x k = seqA (get1V off x) k := rfl
theorem w_getN (off n : Nat) (x : Value) : kGetN off n x k = seqA (getNV off n x) k := rfl
theorem w_idx (sz : Nat) (x i : Value) : kIdx sz x i k = seqA (idxV sz x i) k := rfl
theorem w_idxA (len sz : Nat) (x i : Value) : kIdxA len sz x i k = seqA (idxAV len sz x i) k := rfl
theorem w_ixS (x i : Value) : kIxS x i k = seqA (ixSV x i) k := rfl
theorem w_subS (x : Value) (lo hi : Option Value) : kSubS x lo hi k = seqA (subSV x lo hi) k := rfl
theorem w_subL (sz : Nat) (x : Value) (lo hi : Option Value) : kSubL sz x lo hi k = seqA (subLV sz x lo hi) k := rfl
theorem w_subA (len sz : Nat) (x : Value) (lo hi : Option Value) : kSubA len sz x lo hi k = seqA (subAV len sz x lo hi) k := rfl
theorem w_cvi (kd : IntKind) (x : Value) : kCvi kd x k = seqA (cviV kd x) k := rfl
theorem w_cvSS (x : Value) : kCvSS x k = seqA (cssV x) k := rfl
theorem w_ext (i : Nat) (x : Value) : kExt i x k = seqA (extV i x) k := rfl
theorem w_len (b : Bool) (x : Value) : kLen b x k = seqA (lenV b x) k := rfl
theorem w_min (x y : Value) : kMin x y k = seqA (min2V x y) k := rfl
theorem w_max (x y : Value) : kMax x y k = seqA (max2V x y) k := rfl
theorem w_new (l : List Value) : kNew s l kk = kk (.pointer (some ⟨s.n, 0, none⟩)) (s.new (.cells l)) := rfl
theorem w_newT (t : TypeId) (l : List Value) : kNewT s t l kk = kk (.pointer (some ⟨s.n, 0, none⟩)) (s.new (.typed t l)) := rfl
theorem w_mkm : kMkm s kk = kk (.map (some s.n)) (s.new (.other (.map #[] 0))) := rfl
theorem w_pt (a b : Value) : kPick (.bool true) a b k = k a := rfl
theorem w_pf (a b : Value) : kPick (.bool false) a b k = k b := rfl
theorem w_ct (X Y : Prop) : kCond (.bool true) X Y = X := rfl
theorem w_cf (X Y : Prop) : kCond (.bool false) X Y = Y := rfl
theorem w_gt (X : (List Value → AS → Prop) → Prop) (us : List Value) (K : List Value → AS → Prop) : kGrd (.bool true) true X us s K = X K := rfl
theorem w_gf (X : (List Value → AS → Prop) → Prop) (us : List Value) (K : List Value → AS → Prop) : kGrd (.bool false) false X us s K = X K := rfl
theorem w_gtf (X : (List Value → AS → Prop) → Prop) (us : List Value) (K : List Value → AS → Prop) : kGrd (.bool true) false X us s K = K us s := rfl
theorem w_gft (X : (List Value → AS → Prop) → Prop) (us : List Value) (K : List Value → AS → Prop) : kGrd (.bool false) true X us s K = K us s := rfl
theorem w_gu (b : Bool) (X : (List Value → AS → Prop) → Prop) (us : List Value) (K : List Value → AS → Prop) : kGrd undef b X us s K = K us s := rfl
theorem w_callv (f : Nat) (a b args : List Value) (h : okFn P f = true) : kCallv P (.func (.func f) a.toArray b.toArray) args s kk = kCall P f (a ++ args ++ b) s kk := by
  simp [kCallv, h]
theorem w_mks (sz bytes : Nat) (z : List Value) (kd kd' : IntKind) (a b : Int) (h0 : 0 ≤ a) (h1 : a ≤ b) (h2 : b ≤ 9223372036854775807) (h3 : bytes * b ≤ 281474976710656) (h4 : z.length = sz) (h5 : 0 < sz) :
    kMks s sz bytes z (.int kd a) (.int kd' b) kk = kk (.slice (some ⟨s.n, 0, none⟩) a.toNat b.toNat) (s.new (.cells (List.replicate b.toNat z).flatten)) := by
  simp only [kMks, h0, h1, h2, h3, h4, h5, true_and]
theorem w_alt (X Y : Prop) : kAlt X Y = (X ∧ Y) := rfl
theorem alt_i {X Y : Prop} (h : X) (k : Y) : kAlt X Y := ⟨h, k⟩
def kChkE (o : Option Value) (v : Value) (X : Prop) (_ : Dm X := ()) : Prop := o = some v ∧ X
theorem w_chk (x v : Value) (X : Prop) : kChk s x v X = kChkE (ldS s x) v X := rfl
theorem w_chkN (n : Nat) (x v : Value) (X : Prop) : kChkN s n x v X = kChkE (ldNS s n x) v X := rfl
theorem w_chkE (v : Value) (X : Prop) : kChkE (some v) v X = X := by simp [kChkE]

/-! ### Values -/
theorem b_add (kd : IntKind) (a b : Int) : binV .add (.int kd a) (.int kd b) = some (.int kd (kd.wrap (a + b))) := by simp [binV, intV]
theorem b_sub (kd : IntKind) (a b : Int) : binV .sub (.int kd a) (.int kd b) = some (.int kd (kd.wrap (a - b))) := by simp [binV, intV]
theorem b_mul (kd : IntKind) (a b : Int) : binV .mul (.int kd a) (.int kd b) = some (.int kd (kd.wrap (a * b))) := by simp [binV, intV]
theorem b_eql (kd : IntKind) (a b : Int) : binV .eql (.int kd a) (.int kd b) = some (.bool (decide (a = b))) := by simp [binV, intV]
theorem b_neq (kd : IntKind) (a b : Int) : binV .neq (.int kd a) (.int kd b) = some (.bool (decide (¬ a = b))) := by simp [binV, intV]
theorem b_lss (kd : IntKind) (a b : Int) : binV .lss (.int kd a) (.int kd b) = some (.bool (decide (a < b))) := by simp [binV, intV]
theorem b_leq (kd : IntKind) (a b : Int) : binV .leq (.int kd a) (.int kd b) = some (.bool (decide (a ≤ b))) := by simp [binV, intV]
theorem b_gtr (kd : IntKind) (a b : Int) : binV .gtr (.int kd a) (.int kd b) = some (.bool (decide (b < a))) := by simp [binV, intV]
theorem b_geq (kd : IntKind) (a b : Int) : binV .geq (.int kd a) (.int kd b) = some (.bool (decide (b ≤ a))) := by simp [binV, intV]
theorem b_quo (kd : IntKind) (a b : Int) (h : ¬ b = 0) : binV .quo (.int kd a) (.int kd b) = some (.int kd (kd.wrap (a.tdiv b))) := by simp [binV, intV, h]
theorem b_rem (kd : IntKind) (a b : Int) (h : ¬ b = 0) : binV .rem (.int kd a) (.int kd b) = some (.int kd (a.tmod b)) := by simp [binV, intV, h]
theorem b_sadd (a b : List UInt8) (h : a.length + b.length ≤ 9223372036854775807) : binV .add (.string (bs a)) (.string (bs b)) = some (.string (bs (a ++ b))) := by simp [binV, strV, bs, h]
theorem b_seql (a b : List UInt8) : binV .eql (.string (bs a)) (.string (bs b)) = some (.bool (decide (a = b))) := by
  simp [binV, strV, bs]
  exact decide_eq_decide.2 Iff.rfl
theorem b_sneq (a b : List UInt8) : binV .neq (.string (bs a)) (.string (bs b)) = some (.bool (decide (¬ a = b))) := by
  simp [binV, strV, bs]
  by_cases h : a = b <;> simp [h]
theorem wrap64 (n : Int) (h1 : -9223372036854775808 ≤ n) (h2 : n ≤ 9223372036854775807) : IntKind.i64.wrap n = n := by
  rw [IntKind.wrap_i64]; omega
theorem wrapU8 (n : Int) (h1 : 0 ≤ n) (h2 : n ≤ 255) : IntKind.u8.wrap n = n := by
  simp [IntKind.wrap, IntKind.bits, IntKind.signed]; omega
theorem tdivN (a b : Int) (h1 : 0 ≤ a) (h2 : 0 ≤ b) : a.tdiv b = a / b := Int.tdiv_eq_ediv_of_nonneg h1
theorem tmodN (a b : Int) (h1 : 0 ≤ a) (h2 : 0 ≤ b) : a.tmod b = a % b := Int.tmod_eq_emod_of_nonneg h1
theorem decT {p : Prop} [Decidable p] (h : p) : decide p = true := by simp [h]
theorem decF {p : Prop} [Decidable p] (h : ¬ p) : decide p = false := by simp [h]
theorem iteT {α : Type} {p : Prop} [Decidable p] {a b : α} (h : p) : (if p then a else b) = a := if_pos h
theorem iteF {α : Type} {p : Prop} [Decidable p] {a b : α} (h : ¬ p) : (if p then a else b) = b := if_neg h
theorem n_ptr (a : Addr) : nckV (.pointer (some a)) = some (.pointer (some a)) := rfl
theorem n_fn (f : FuncId) (a b : Array Value) : nckV (.func (.func f) a b) = some (.func (.func f) a b) := rfl
theorem n_if (t : TypeId) (v : Value) : nckV (.iface t v) = some (.iface t v) := rfl
theorem add_eq (b o n : Nat) : (⟨b, o, none⟩ : Addr).add n = ⟨b, o + n, none⟩ := by
  unfold Addr.add; split <;> simp_all
theorem f_ptr (off b o : Nat) : fldV off (.pointer (some ⟨b, o, none⟩)) = some (.pointer (some ⟨b, o + off, none⟩)) := by
  rw [← add_eq]; rfl
theorem g_one (off : Nat) (cs : List Value) : get1V off (.agg cs.toArray) = cs[off]? := rfl
theorem g_n (off n : Nat) (cs : List Value) : getNV off n (.agg cs.toArray) = some (.agg ((cs.drop off).take n).toArray) := rfl
theorem e_one (i : Nat) (cs : List Value) : extV i (.tuple cs.toArray) = cs[i]? := rfl
theorem x_in (sz b o n c : Nat) (kd : IntKind) (i : Int) (h0 : 0 ≤ i) (h1 : i < n) : idxV sz (.slice (some ⟨b, o, none⟩) n c) (.int kd i) = some (.pointer (some ⟨b, o + i.toNat * sz, none⟩)) := by
  simp [idxV, h0, h1, add_eq]
theorem xa_in (len sz b o : Nat) (kd : IntKind) (i : Int) (h0 : 0 ≤ i) (h1 : i < len) : idxAV len sz (.pointer (some ⟨b, o, none⟩)) (.int kd i) = some (.pointer (some ⟨b, o + i.toNat * sz, none⟩)) := by
  simp [idxAV, h0, h1, add_eq]
theorem xs_in (l : List UInt8) (kd : IntKind) (i : Int) (h0 : 0 ≤ i) (h1 : i < l.length) : ixSV (.string (bs l)) (.int kd i) = some (.int .u8 (l[i.toNat]?.getD 0).toNat) := by
  have : i.toNat < l.length := by omega
  simp [ixSV, strAt, h0, bs, this]
theorem tn_add (a : Nat) (b : Nat) : ((a : Int) + (b : Int)).toNat = a + b := by omega
theorem tn_add1 (a : Nat) : ((a : Int) + 1).toNat = a + 1 := by omega
theorem tn_sub1 (a : Nat) : ((a : Int) - 1).toNat = a - 1 := by omega
theorem tn_add2 (a : Nat) : ((a : Int) + 2).toNat = a + 2 := by omega
theorem tn_sub2 (a : Nat) : ((a : Int) - 2).toNat = a - 2 := by omega
theorem ld_p (b o : Nat) : ldS s (.pointer (some ⟨b, o, none⟩)) = s.ld b o := by simp [ldS]
theorem ldN_p (n b o : Nat) : ldNS s n (.pointer (some ⟨b, o, none⟩)) = (ldsS s b o n).map fun l => .agg l.toArray := by simp [ldNS]
theorem lds_z (b o : Nat) : ldsS s b o 0 = some [] := rfl
theorem lds_s (b o n : Nat) : ldsS s b o (n + 1) = (s.ld b o).bind fun v => (ldsS s b (o + 1) n).map (v :: ·) := rfl
def ldOb (c : Option Value) : Option Ob → Nat → Option Value
  | some (.cells l), o => l[o]?
  | some (.other _), _ => none
  | some (.typed _ l), o => l[o]?
  | none, _ => c
theorem ld_ob (b o : Nat) : s.ld b o = ldOb (s.c b o) (s.m b) o := by unfold AS.ld ldOb; split <;> simp_all
theorem ob_c (c : Option Value) (l : List Value) (o : Nat) : ldOb c (some (.cells l)) o = l[o]? := rfl
theorem ob_t (c : Option Value) (t : TypeId) (l : List Value) (o : Nat) : ldOb c (some (.typed t l)) o = l[o]? := rfl
theorem ob_n (c : Option Value) (o : Nat) : ldOb c none o = c := rfl
theorem ldsM {g : Nat} {l : List Value} (hb : s.m g = some (.cells l)) : ∀ (n o : Nat), o + n ≤ l.length → ldsS s g o n = some ((l.drop o).take n)
  | 0, o, _ => by simp [ldsS]
  | n + 1, o, h => by
    have hlt : o < l.length := by omega
    rw [lds_s, ld_m hb, List.getElem?_eq_getElem hlt, Option.bind_some, ldsM hb n (o + 1) (by omega), Option.map_some, List.drop_eq_getElem_cons hlt, List.take_succ_cons]
theorem ldsT {g : Nat} {t : TypeId} {l : List Value} (hb : s.m g = some (.typed t l)) : ∀ (n o : Nat), o + n ≤ l.length → ldsS s g o n = some ((l.drop o).take n)
  | 0, o, _ => by simp [ldsS]
  | n + 1, o, h => by
    have hlt : o < l.length := by omega
    rw [lds_s, ld_t hb, List.getElem?_eq_getElem hlt, Option.bind_some, ldsT hb n (o + 1) (by omega), Option.map_some, List.drop_eq_getElem_cons hlt, List.take_succ_cons]
theorem ldNM {g : Nat} {l : List Value} (hb : s.m g = some (.cells l)) (n o : Nat) (h : o + n ≤ l.length) : ldNS s n (.pointer (some ⟨g, o, none⟩)) = some (.agg ((l.drop o).take n).toArray) := by
  rw [ldN_p, ldsM hb n o h]; rfl
/-- What a store asks, when it is known what stands there. -/
def stOb (s : AS) (b : Nat) (v : Value) (n : Nat) : Option Ob → Nat → Option AS
  | some (.cells l), o => if (cellsV v).length = n ∧ o + n ≤ l.length ∧ (cellsV v).all okCell then some (s.put b (.cells (l.take o ++ cellsV v ++ l.drop (o + n)))) else none
  | some (.typed t l), o => if (cellsV v).length = n ∧ o + n ≤ l.length ∧ (cellsV v).all okCell then some (s.put b (.typed t (l.take o ++ cellsV v ++ l.drop (o + n)))) else none
  | _, _ => none
theorem st_p (n b o : Nat) (v : Value) : stS s n (.pointer (some ⟨b, o, none⟩)) v = stOb s b v n (s.m b) o := by
  simp only [stS, stOb, true_and]
  split <;> simp_all
theorem st1 (b o : Nat) (v : Value) (l : List Value) (hv : okCell v = true) : stOb s b v 1 (some (.cells l)) o = if o < l.length then some (s.put b (.cells (l.set o v))) else none := by
  have hc : cellsV v = [v] := by cases v <;> first | rfl | cases hv
  by_cases h : o < l.length
  · have h' : o + 1 ≤ l.length := h
    simp [stOb, hc, hv, h', List.set_eq_take_append_cons_drop, h]
  · have h' : ¬ o + 1 ≤ l.length := h
    simp [stOb, hc, hv, h', h]
theorem st1t (b o : Nat) (v : Value) (t : TypeId) (l : List Value) (hv : okCell v = true) : stOb s b v 1 (some (.typed t l)) o = if o < l.length then some (s.put b (.typed t (l.set o v))) else none := by
  have hc : cellsV v = [v] := by cases v <;> first | rfl | cases hv
  by_cases h : o < l.length
  · have h' : o + 1 ≤ l.length := h
    simp [stOb, hc, hv, h', List.set_eq_take_append_cons_drop, h]
  · have h' : ¬ o + 1 ≤ l.length := h
    simp [stOb, hc, hv, h', h]
theorem stNt (n b o : Nat) (cs : List Value) (t : TypeId) (l : List Value) (h1 : cs.length = n) (h2 : cs.all okCell = true) : stOb s b (.agg cs.toArray) n (some (.typed t l)) o = if o + n ≤ l.length then some (s.put b (.typed t (l.take o ++ cs ++ l.drop (o + n)))) else none := by
  simp [stOb, cellsV, h1, h2]
theorem stN (n b o : Nat) (cs l : List Value) (h1 : cs.length = n) (h2 : cs.all okCell = true) : stOb s b (.agg cs.toArray) n (some (.cells l)) o = if o + n ≤ l.length then some (s.put b (.cells (l.take o ++ cs ++ l.drop (o + n)))) else none := by
  simp [stOb, cellsV, h1, h2]
theorem ok_int (kd : IntKind) (n : Int) : okCell (.int kd n) = true := rfl
theorem ok_bool (b : Bool) : okCell (.bool b) = true := rfl
theorem ok_str (b : ByteArray) : okCell (.string b) = true := rfl
theorem ok_ptr (a : Option Addr) : okCell (.pointer a) = true := rfl
theorem ok_sl (a : Option Addr) (n c : Nat) : okCell (.slice a n c) = true := rfl
theorem ok_map (a : Option Nat) : okCell (.map a) = true := rfl
theorem ok_fn (f : Fn) (x y : Array Value) : okCell (.func f x y) = true := rfl
theorem ok_nf : okCell .nilFunc = true := rfl
theorem al_n : ([] : List Value).all okCell = true := rfl
theorem al_int (kd : IntKind) (n : Int) (l : List Value) : (Value.int kd n :: l).all okCell = l.all okCell := rfl
theorem al_bool (b : Bool) (l : List Value) : (Value.bool b :: l).all okCell = l.all okCell := rfl
theorem al_str (b : ByteArray) (l : List Value) : (Value.string b :: l).all okCell = l.all okCell := rfl
theorem al_ptr (a : Option Addr) (l : List Value) : (Value.pointer a :: l).all okCell = l.all okCell := rfl
theorem al_sl (a : Option Addr) (n c : Nat) (l : List Value) : (Value.slice a n c :: l).all okCell = l.all okCell := rfl
theorem al_map (a : Option Nat) (l : List Value) : (Value.map a :: l).all okCell = l.all okCell := rfl
theorem al_fn (f : Fn) (x y : Array Value) (l : List Value) : (Value.func f x y :: l).all okCell = l.all okCell := rfl
theorem al_nf (l : List Value) : (Value.nilFunc :: l).all okCell = l.all okCell := rfl
theorem new_at {g : Nat} {ob : Ob} (h : g = σ.n) : (σ.new ob).m g = some ob := by rw [h]; exact new_eq_
theorem put_put {g : Nat} {a b : Ob} : (σ.put g a).put g b = σ.put g b := by
  unfold AS.put
  congr 1
  funext k
  dsimp only
  split
  · rename_i e; subst e; simp [Option.map_map, Function.comp_def]
  · rfl
theorem cv_int (kd kd' : IntKind) (n : Int) : cviV kd (.int kd' n) = some (.int kd (kd.wrap n)) := rfl
theorem len_s (l : List UInt8) : lenV true (.string (bs l)) = some (.int .i64 l.length) := by simp [lenV, bs_size]
theorem len_l (a : Option Addr) (n c : Nat) : lenV false (.slice a n c) = some (.int .i64 n) := rfl
theorem css (s : ByteArray) : cssV (.string s) = some (.string s) := rfl
theorem min_i (kd kd' : IntKind) (x y : Int) : min2V (.int kd x) (.int kd' y) = some (.int kd (if y < x then y else x)) := rfl
theorem max_i (kd kd' : IntKind) (x y : Int) : max2V (.int kd x) (.int kd' y) = some (.int kd (if x < y then y else x)) := rfl
theorem u_not (b : Bool) : unV .not (.bool b) = some (.bool !b) := rfl
theorem u_neg (kd : IntKind) (n : Int) : unV .neg (.int kd n) = some (.int kd (kd.wrap (0 - n))) := rfl
theorem eq_pn (b : Option Addr) : eqV 0 (.pointer none) (.pointer b) = some b.isNone := rfl
theorem eq_ps (a : Addr) : eqV 0 (.pointer (some a)) (.pointer none) = some false := rfl
theorem eq_sn (a : Option Addr) (n c n' c' : Nat) : eqV 1 (.slice none n c) (.slice a n' c') = some a.isNone := rfl
theorem eq_ss (a : Addr) (n c n' c' : Nat) : eqV 1 (.slice (some a) n c) (.slice none n' c') = some false := rfl
theorem eq_mn (b : Option Nat) : eqV 2 (.map none) (.map b) = some b.isNone := rfl
theorem eq_ms (a : Nat) : eqV 2 (.map (some a)) (.map none) = some false := rfl
theorem eq_nn : eqV 3 .nilFunc .nilFunc = some true := rfl
theorem eq_fn (f : Fn) (a b : Array Value) : eqV 3 (.func f a b) .nilFunc = some false := rfl
theorem eq_b (a b : Bool) : eqV 4 (.bool a) (.bool b) = some (a == b) := rfl
theorem eqi_nn : eqI .nilIface .nilIface = some true := rfl
theorem eqi_in (t : TypeId) (v : Value) : eqI (.iface t v) .nilIface = some false := rfl
theorem eqi_ni (t : TypeId) (v : Value) : eqI .nilIface (.iface t v) = some false := rfl
theorem cells_agg (cs : List Value) : cellsV (.agg cs.toArray) = cs := rfl
theorem cells_int (kd : IntKind) (n : Int) : cellsV (.int kd n) = [.int kd n] := rfl
theorem cells_bool (b : Bool) : cellsV (.bool b) = [.bool b] := rfl
theorem cells_str (s : ByteArray) : cellsV (.string s) = [.string s] := rfl
theorem cells_ptr (a : Option Addr) : cellsV (.pointer a) = [.pointer a] := rfl
theorem cells_sl (a : Option Addr) (n c : Nat) : cellsV (.slice a n c) = [.slice a n c] := rfl
theorem cells_map (a : Option Nat) : cellsV (.map a) = [.map a] := rfl
theorem cells_fn (f : Fn) (a b : Array Value) : cellsV (.func f a b) = [.func f a b] := rfl
theorem cells_nf : cellsV .nilFunc = [.nilFunc] := rfl
theorem sub_s (l : List UInt8) (lo hi : Option Value) : subSV (.string (bs l)) lo hi = (bndV 0 lo).bind fun a => (bndV l.length hi).bind fun b => subV l a b := by
  simp only [subSV, bs_size, bs_data]
theorem bnd_n (d : Nat) : bndV d none = some (d : Int) := rfl
theorem bnd_s (d : Nat) (kd : IntKind) (i : Int) : bndV d (some (.int kd i)) = some i := rfl
theorem sub_in (l : List UInt8) (lo hi : Int) (h1 : 0 ≤ lo) (h2 : lo ≤ hi) (h3 : hi ≤ l.length) : subV l lo hi = some (.string (bs ((l.drop lo.toNat).take (hi.toNat - lo.toNat)))) := by
  simp [subV, h1, h2, h3]
theorem sub_l (sz : Nat) (a : Option Addr) (n c : Nat) (lo hi : Option Value) : subLV sz (.slice a n c) lo hi = (bndV 0 lo).bind fun x => (bndV n hi).bind fun y => cutV sz a c x y := rfl
theorem sub_a (len sz : Nat) (a : Addr) (lo hi : Option Value) : subAV len sz (.pointer (some a)) lo hi = (bndV 0 lo).bind fun x => (bndV len hi).bind fun y => cutV sz (some a) len x y := rfl
theorem cut_in (sz : Nat) (a : Option Addr) (c : Nat) (lo hi : Int) (h1 : 0 ≤ lo) (h2 : lo ≤ hi) (h3 : hi ≤ c) : cutV sz a c lo hi = some (.slice (if c = lo.toNat then a else a.map (·.add (lo.toNat * sz))) (hi.toNat - lo.toNat) (c - lo.toNat)) := by
  simp [cutV, h1, h2, h3]
theorem lay_nil (l : List Value) : lay l [] = some l := rfl
theorem lay_cons (l : List Value) (off n : Nat) (v : Value) (r : List (Nat × Nat × Value)) : lay l ((off, n, v) :: r) = if (cellsV v).length = n ∧ off + n ≤ l.length then lay (l.take off ++ cellsV v ++ l.drop (off + n)) r else none := rfl
theorem some_bind {α β : Type} (a : α) (f : α → Option β) : (some a).bind f = f a := rfl
theorem some_map {α β : Type} (a : α) (f : α → β) : (some a).map f = some (f a) := rfl
theorem none_map {α β : Type} (f : α → β) : (none : Option α).map f = none := rfl
theorem if_t0 {α : Type} (a b : α) : (if True then a else b) = a := if_true ..
theorem if_f0 {α : Type} (a b : α) : (if False then a else b) = b := if_false ..
theorem isn_s {α : Type} (a : α) : (some a).isNone = false := rfl
theorem isn_n {α : Type} : (none : Option α).isNone = true := rfl
theorem bne_f (b : Bool) : (b != false) = b := by cases b <;> rfl
theorem bne_t (b : Bool) : (b != true) = !b := by cases b <;> rfl
theorem not_t : (!true) = false := rfl
theorem not_f : (!false) = true := rfl
theorem get_z {α : Type} (a : α) (l : List α) : (a :: l)[0]? = some a := rfl
theorem get_s {α : Type} (a : α) (l : List α) (n : Nat) : (a :: l)[n + 1]? = l[n]? := rfl
theorem set_z {α : Type} (a v : α) (l : List α) : (a :: l).set 0 v = v :: l := rfl
theorem set_s {α : Type} (a v : α) (l : List α) (n : Nat) : (a :: l).set (n + 1) v = a :: l.set n v := rfl
theorem len_c {α : Type} (a : α) (l : List α) : (a :: l).length = l.length + 1 := rfl
theorem len_n {α : Type} : ([] : List α).length = 0 := rfl
theorem ln_app {α : Type} (l m : List α) : (l ++ m).length = l.length + m.length := List.length_append
theorem ln_map {α β : Type} (f : α → β) (l : List α) : (l.map f).length = l.length := List.length_map ..
theorem ln_rep {α : Type} (n : Nat) (a : α) : (List.replicate n a).length = n := List.length_replicate ..
theorem ln_set {α : Type} (l : List α) (n : Nat) (a : α) : (l.set n a).length = l.length := List.length_set ..
theorem ln_take {α : Type} (n : Nat) (l : List α) : (l.take n).length = min n l.length := List.length_take ..
theorem ln_drop {α : Type} (n : Nat) (l : List α) : (l.drop n).length = l.length - n := List.length_drop ..
theorem app_n {α : Type} (l : List α) : [] ++ l = l := rfl
theorem app_c {α : Type} (a : α) (l m : List α) : (a :: l) ++ m = a :: (l ++ m) := rfl
theorem app_r {α : Type} (l : List α) : l ++ [] = l := List.append_nil l
theorem tk_z {α : Type} (l : List α) : l.take 0 = [] := rfl
theorem tk_s {α : Type} (a : α) (l : List α) (n : Nat) : (a :: l).take (n + 1) = a :: l.take n := rfl
theorem dr_z {α : Type} (l : List α) : l.drop 0 = l := rfl
theorem dr_s {α : Type} (a : α) (l : List α) (n : Nat) : (a :: l).drop (n + 1) = l.drop n := rfl
theorem tk_n {α : Type} (n : Nat) : ([] : List α).take n = [] := by simp
theorem dr_n {α : Type} (n : Nat) : ([] : List α).drop n = [] := by simp
theorem and_t (p : Prop) : (p ∧ True) = p := and_true p
theorem t_and (p : Prop) : (True ∧ p) = p := true_and p
theorem eq_t {α : Type} (a : α) : (a = a) = True := eq_self a
theorem nz_add (n : Nat) : 0 + n = n := Nat.zero_add n
theorem add_z (n : Nat) : n + 0 = n := rfl
theorem mul_o (n : Nat) : n * 1 = n := Nat.mul_one n
theorem tn_cast (n : Nat) : ((n : Int)).toNat = n := Int.toNat_natCast n
theorem beq_tr (b : Bool) : (b == true) = b := by cases b <;> rfl
theorem beq_fr (b : Bool) : (b == false) = !b := by cases b <;> rfl
theorem beq_tl (b : Bool) : (true == b) = b := by cases b <;> rfl
theorem beq_fl (b : Bool) : (false == b) = !b := by cases b <;> rfl
theorem dec_t : decide True = true := rfl
theorem dec_f : decide False = false := rfl
theorem dec_n (p : Prop) [Decidable p] : decide (¬ p) = !decide p := by by_cases h : p <;> simp [h]

/-! ### Ways part, calls -/
theorem cond_d {p : Prop} [Decidable p] {X Y : Prop} (h1 : p → X) (h2 : ¬ p → Y) : kCond (.bool (decide p)) X Y := by
  by_cases h : p
  · rw [decide_eq_true h]; exact h1 h
  · rw [decide_eq_false h]; exact h2 h
theorem cond_b {c : Bool} {X Y : Prop} (h1 : c = true → X) (h2 : c = false → Y) : kCond (.bool c) X Y := by
  cases c
  · exact h2 rfl
  · exact h1 rfl
theorem cond_nd {p : Prop} [Decidable p] {X Y : Prop} (h1 : ¬ p → X) (h2 : p → Y) : kCond (.bool (!decide p)) X Y := by
  by_cases h : p
  · rw [decide_eq_true h]; exact h2 h
  · rw [decide_eq_false h]; exact h1 h
theorem grd_b {c b : Bool} {X : (List Value → AS → Prop) → Prop} {us : List Value} {K : List Value → AS → Prop} (h1 : c = b → X K) (h2 : c ≠ b → K us s) : kGrd (.bool c) b X us s K := by
  unfold kGrd
  dsimp only
  split
  · rename_i h; exact h1 h
  · rename_i h; exact h2 h
theorem grd_t {p : Prop} [Decidable p] {X : (List Value → AS → Prop) → Prop} {us : List Value} {K : List Value → AS → Prop} (h1 : p → X K) (h2 : ¬ p → K us s) : kGrd (.bool (decide p)) true X us s K :=
  grd_b (fun h => h1 (of_decide_eq_true h)) (fun h => h2 (fun hp => h (decide_eq_true hp)))
theorem grd_f {p : Prop} [Decidable p] {X : (List Value → AS → Prop) → Prop} {us : List Value} {K : List Value → AS → Prop} (h1 : ¬ p → X K) (h2 : p → K us s) : kGrd (.bool (decide p)) false X us s K :=
  grd_b (fun h => h1 (of_decide_eq_false h)) (fun h => h2 (by
    by_cases hp : p
    · exact hp
    · exact (h (decide_eq_false hp)).elim))
/-- The ways meet: what comes then under a name. -/
theorem join_by {J : List Value → AS → Prop} {B : (List Value → AS → Prop) → Prop} (h : ∀ J' : List Value → AS → Prop, (∀ xs s, J xs s → J' xs s) → B J') : kStop J B := h J fun _ _ h => h
theorem join_now {J : List Value → AS → Prop} {B : (List Value → AS → Prop) → Prop} (h : B J) : kStop J B := h
theorem kCall_mono {f : Nat} {args : List Value} {k' : Value → AS → Prop} (h : kCall P f args s k') (hk : ∀ v s', k' v s' → kk v s') : kCall P f args s kk := fun w hw =>
  callP_mono (h w hw) fun _ _ ⟨h1, σ', h2, h3, h4⟩ => ⟨h1, σ', h2, h3, hk _ _ h4⟩
/-- A loop: what stands at its head as a function of something else, which is measured. -/
theorem loop_by {α : Type} {B : (List Value → AS → Prop) → List Value → AS → Prop} {xs : List Value} (X : α → List Value) (T : α → AS) (Ok : α → Prop) (μ : α → Nat) (a : α) (h0 : Ok a) (hx : xs = X a) (hs : s = T a)
    (h : ∀ a, Ok a → ∀ again : List Value → AS → Prop, (∀ b, Ok b → μ b < μ a → again (X b) (T b)) → B again (X a) (T a)) : kLoop B xs s := by
  refine ⟨fun n xs s => ∃ a, Ok a ∧ xs = X a ∧ s = T a ∧ μ a = n, ⟨μ a, a, h0, hx, hs, rfl⟩, ?_⟩
  rintro n _ _ ⟨a, ha, rfl, rfl, rfl⟩
  exact h a ha _ fun b hb hlt => ⟨μ b, hlt, b, hb, rfl, rfl, rfl⟩
end

/-! ### The rules in bundles -/
abbrev T {p : Prop} (_ : p) : Prop := p
theorem preR : T @w_bin ∧ T @w_sft ∧ T @w_eq ∧ T @w_eqi ∧ T @w_un ∧ T @w_ld ∧ T @w_ldN ∧ T @w_st ∧ T @w_build ∧ T @w_bsl ∧ T @w_nck ∧ T @w_fld ∧ T @w_get ∧ T @w_getN ∧ T @w_idx ∧ T @w_idxA ∧ T @w_ixS ∧ T @w_subS ∧ T @w_subL ∧ T @w_subA ∧ T @w_cvi ∧ T @w_cvSS ∧ T @w_ext ∧ T @w_len ∧ T @w_min ∧ T @w_max ∧ T @w_mkm ∧ T @w_chk ∧ T @w_chkN :=
  ⟨@w_bin, @w_sft, @w_eq, @w_eqi, @w_un, @w_ld, @w_ldN, @w_st, @w_build, @w_bsl, @w_nck, @w_fld, @w_get, @w_getN, @w_idx, @w_idxA, @w_ixS, @w_subS, @w_subL, @w_subA, @w_cvi, @w_cvSS, @w_ext, @w_len, @w_min, @w_max, @w_mkm, @w_chk, @w_chkN⟩
theorem postR : T @w_new ∧ T @w_newT ∧ T @w_pt ∧ T @w_pf ∧ T @w_ct ∧ T @w_cf ∧ T @w_gt ∧ T @w_gf ∧ T @w_gtf ∧ T @w_gft ∧ T @w_gu ∧ T @w_mks ∧ T @b_add ∧ T @b_sub ∧ T @b_mul ∧ T @b_eql ∧ T @b_neq ∧ T @b_lss ∧ T @b_leq ∧ T @b_gtr ∧ T @b_geq ∧ T @b_quo ∧ T @b_rem ∧ T @b_sadd ∧ T @b_seql ∧ T @b_sneq ∧ T @wrap64 ∧ T @wrapU8 ∧ T @tdivN ∧ T @tmodN ∧ T @decT ∧ T @decF ∧ T @iteT ∧ T @iteF ∧ T @n_ptr ∧ T @n_fn ∧ T @n_if ∧ T @add_eq ∧ T @f_ptr ∧ T @g_one ∧ T @g_n ∧ T @e_one ∧ T @x_in ∧ T @xa_in ∧ T @xs_in ∧ T @tn_add ∧ T @tn_add1 ∧ T @tn_sub1 ∧ T @tn_add2 ∧ T @tn_sub2 ∧ T @ld_p ∧ T @ldN_p ∧ T @lds_z ∧ T @lds_s ∧ T @ld_ob ∧ T @ob_c ∧ T @ob_t ∧ T @ob_n ∧ T @st_p ∧ T @st1 ∧ T @st1t ∧ T @stNt ∧ T @stN ∧ T @ok_int ∧ T @ok_bool ∧ T @ok_str ∧ T @ok_ptr ∧ T @ok_sl ∧ T @ok_map ∧ T @ok_fn ∧ T @ok_nf ∧ T @new_at ∧ T @put_put ∧ T @cv_int ∧ T @len_s ∧ T @len_l ∧ T @css ∧ T @min_i ∧ T @max_i ∧ T @u_not ∧ T @u_neg ∧ T @eq_pn ∧ T @eq_ps ∧ T @eq_sn ∧ T @eq_ss ∧ T @eq_mn ∧ T @eq_ms ∧ T @eq_nn ∧ T @eq_fn ∧ T @eq_b ∧ T @eqi_nn ∧ T @eqi_in ∧ T @eqi_ni ∧ T @cells_agg ∧ T @cells_int ∧ T @cells_bool ∧ T @cells_str ∧ T @cells_ptr ∧ T @cells_sl ∧ T @cells_map ∧ T @cells_fn ∧ T @cells_nf ∧ T @sub_s ∧ T @bnd_n ∧ T @bnd_s ∧ T @sub_in ∧ T @sub_l ∧ T @sub_a ∧ T @cut_in ∧ T @lay_nil ∧ T @lay_cons ∧ T @some_bind ∧ T @some_map ∧ T @none_map ∧ T @if_t0 ∧ T @if_f0 ∧ T @isn_s ∧ T @isn_n ∧ T @bne_f ∧ T @bne_t ∧ T @not_t ∧ T @not_f ∧ T @get_z ∧ T @get_s ∧ T @set_z ∧ T @set_s ∧ T @len_c ∧ T @len_n ∧ T @app_n ∧ T @app_c ∧ T @app_r ∧ T @tk_z ∧ T @tk_s ∧ T @dr_z ∧ T @dr_s ∧ T @tk_n ∧ T @dr_n ∧ T @and_t ∧ T @t_and ∧ T @eq_t ∧ T @nz_add ∧ T @add_z ∧ T @mul_o ∧ T @tn_cast ∧ T @beq_tr ∧ T @beq_fr ∧ T @beq_tl ∧ T @beq_fl ∧ T @dec_t ∧ T @dec_f ∧ T @dec_n ∧ T @seqA_some ∧ T @up_m ∧ T @up_c ∧ T @up_n ∧ T @up_up ∧ T @new_c ∧ T @new_n ∧ T @new_ne ∧ T @del_c ∧ T @del_n ∧ T @del_ne ∧ T @put_c ∧ T @put_n ∧ T @put_eq ∧ T @put_ne ∧ T @un1_l ∧ T @un2_l ∧ T @un3_l ∧ T @un4_l ∧ T @un5_l ∧ T @un6_l ∧ T @un7_l ∧ T @un8_l ∧ T @un9_l ∧ T @un10_l ∧ T @un11_l ∧ T @un12_l ∧ T @un13_l ∧ T @un14_l ∧ T @un15_l ∧ T @un16_l ∧ T @w_chkE :=
  ⟨@w_new, @w_newT, @w_pt, @w_pf, @w_ct, @w_cf, @w_gt, @w_gf, @w_gtf, @w_gft, @w_gu, @w_mks, @b_add, @b_sub, @b_mul, @b_eql, @b_neq, @b_lss, @b_leq, @b_gtr, @b_geq, @b_quo, @b_rem, @b_sadd, @b_seql, @b_sneq, @wrap64, @wrapU8, @tdivN, @tmodN, @decT, @decF, @iteT, @iteF, @n_ptr, @n_fn, @n_if, @add_eq, @f_ptr, @g_one, @g_n, @e_one, @x_in, @xa_in, @xs_in, @tn_add, @tn_add1, @tn_sub1, @tn_add2, @tn_sub2, @ld_p, @ldN_p, @lds_z, @lds_s, @ld_ob, @ob_c, @ob_t, @ob_n, @st_p, @st1, @st1t, @stNt, @stN, @ok_int, @ok_bool, @ok_str, @ok_ptr, @ok_sl, @ok_map, @ok_fn, @ok_nf, @new_at, @put_put, @cv_int, @len_s, @len_l, @css, @min_i, @max_i, @u_not, @u_neg, @eq_pn, @eq_ps, @eq_sn, @eq_ss, @eq_mn, @eq_ms, @eq_nn, @eq_fn, @eq_b, @eqi_nn, @eqi_in, @eqi_ni, @cells_agg, @cells_int, @cells_bool, @cells_str, @cells_ptr, @cells_sl, @cells_map, @cells_fn, @cells_nf, @sub_s, @bnd_n, @bnd_s, @sub_in, @sub_l, @sub_a, @cut_in, @lay_nil, @lay_cons, @some_bind, @some_map, @none_map, @if_t0, @if_f0, @isn_s, @isn_n, @bne_f, @bne_t, @not_t, @not_f, @get_z, @get_s, @set_z, @set_s, @len_c, @len_n, @app_n, @app_c, @app_r, @tk_z, @tk_s, @dr_z, @dr_s, @tk_n, @dr_n, @and_t, @t_and, @eq_t, @nz_add, @add_z, @mul_o, @tn_cast, @beq_tr, @beq_fr, @beq_tl, @beq_fl, @dec_t, @dec_f, @dec_n, @seqA_some, @up_m, @up_c, @up_n, @up_up, @new_c, @new_n, @new_ne, @del_c, @del_n, @del_ne, @put_c, @put_n, @put_eq, @put_ne, @un1_l, @un2_l, @un3_l, @un4_l, @un5_l, @un6_l, @un7_l, @un8_l, @un9_l, @un10_l, @un11_l, @un12_l, @un13_l, @un14_l, @un15_l, @un16_l, @w_chkE⟩
theorem sizeR : T @up_n ∧ T @new_n ∧ T @put_n ∧ T @del_n ∧ T @len_c ∧ T @len_n ∧ T @ln_app ∧ T @ln_map ∧ T @ln_rep ∧ T @ln_set ∧ T @ln_take ∧ T @ln_drop :=
  ⟨@up_n, @new_n, @put_n, @del_n, @len_c, @len_n, @ln_app, @ln_map, @ln_rep, @ln_set, @ln_take, @ln_drop⟩
theorem okR : T @ok_int ∧ T @ok_bool ∧ T @ok_str ∧ T @ok_ptr ∧ T @ok_sl ∧ T @ok_map ∧ T @ok_fn ∧ T @ok_nf ∧ T @al_n ∧ T @al_int ∧ T @al_bool ∧ T @al_str ∧ T @al_ptr ∧ T @al_sl ∧ T @al_map ∧ T @al_fn ∧ T @al_nf := ⟨@ok_int, @ok_bool, @ok_str, @ok_ptr, @ok_sl, @ok_map, @ok_fn, @ok_nf, @al_n, @al_int, @al_bool, @al_str, @al_ptr, @al_sl, @al_map, @al_fn, @al_nf⟩
/-- What a walk asks on its way. -/
theorem dsc {p : Prop} (h : p := by first | omega | (simp only [okR]; done) | (simp only [sizeR] <;> omega)) : p := h
end Go.Proofs.YtpnefcapiiemdaaGreatDoor.E

/- What may be forgotten of an abstract state; what only made new things. Conditions: none. -/
namespace Go.Proofs.YtpnefcapiiemdaaGreatDoor.E
open Go.RowKit

/-- σ' knows no more than σ. -/
structure Wk (σ σ' : AS) : Prop where
  n : σ'.n = σ.n
  m : ∀ g ob, σ'.m g = some ob → σ.m g = some ob
  c : ∀ b o v, σ'.c b o = some v → σ.ld b o = some v
/-- Of what was there in a nothing has turned in σ. -/
structure Gar (a σ : AS) : Prop where
  n : a.n ≤ σ.n
  m : ∀ g, g < a.n → σ.m g = a.m g
  c : σ.c = a.c
section
variable {P : Program} {a σ σ' : AS} {w : World} {k : Value → AS → Prop} {f : Nat} {args : List Value}
theorem Wk.refl (σ : AS) : Wk σ σ := ⟨rfl, fun _ _ h => h, fun _ _ _ h => ld_c h⟩
theorem Wk.sat (h : Wk σ σ') (hs : Sat σ w) : Sat σ' w := ⟨hs.sz.trans h.n.symm, fun g ob hg => hs.m g ob (h.m g ob hg), fun b o v hv => hs.ld (h.c b o v hv)⟩
theorem Wk.fol (h : Wk σ σ') : Fol σ σ' := ⟨by rw [h.n]; omega, fun g hg => by
  cases hm : σ'.m g with
  | none => exact (hg hm).elim
  | some ob => exact .inl (by rw [h.m g ob hm]; simp)⟩
theorem Wk.live (h : Wk σ σ') (g : Nat) (hg : σ'.live g) : σ.live g := by
  cases hm : σ'.m g with
  | none => exact (hg hm).elim
  | some ob => unfold AS.live; rw [h.m g ob hm]; simp
theorem kCall_wk (h : kCall P f args σ fun v σ1 => ∃ σ2, Wk σ1 σ2 ∧ k v σ2) : kCall P f args σ k := fun w hw =>
  callP_mono (h w hw) fun _ _ ⟨h1, _, h2, h3, _, h4, h5⟩ => ⟨h1, _, h4.sat h2, h3.trans h4.fol, h5⟩
theorem Lf_pre {X : World → (Value → World → Prop) → Prop} (hX : ∀ w k k', (∀ v w, k v w → k' v w) → X w k → X w k') (hk : Wk σ σ') (h : Lf X σ' k) : Lf X σ k := fun w hw =>
  hX w _ _ (fun _ _ ⟨h1, _, h2, h3, h4⟩ => ⟨(KeepP.refl _ _).step h1 (fun g hg => .inl (hk.live g hg)), _, h2, hk.fol.trans h3, h4⟩) (h w (hk.sat hw))
theorem kCall_pre (hk : Wk σ σ') (h : kCall P f args σ' k) : kCall P f args σ k := Lf_pre (fun _ _ _ h1 h2 => callP_mono h2 h1) hk h
theorem Gar.refl (a : AS) : Gar a a := ⟨Nat.le_refl _, fun _ _ => rfl, rfl⟩
theorem Gar.new (h : Gar a σ) (ob : Ob) : Gar a (σ.new ob) := ⟨by rw [new_n]; have := h.n; omega, fun g hg => by rw [new_ne (by have := h.n; omega)]; exact h.m g hg, h.c⟩
theorem Gar.up (h : Gar a σ) (j : Nat) : Gar a (σ.up j) := ⟨by rw [up_n]; have := h.n; omega, h.m, h.c⟩
theorem Gar.put (h : Gar a σ) {g : Nat} (hg : a.n ≤ g) (ob : Ob) : Gar a (σ.put g ob) := ⟨h.n, fun k hk => by rw [put_ne (by omega)]; exact h.m k hk, h.c⟩
theorem Gar.trans {b : AS} (h : Gar a b) (k : Gar b σ) : Gar a σ := ⟨Nat.le_trans h.n k.n, fun g hg => (k.m g (Nat.lt_of_lt_of_le hg h.n)).trans (h.m g hg), k.c.trans h.c⟩
theorem Gar.wk (h : Gar a σ) : Wk σ (a.up (σ.n - a.n)) := ⟨by rw [up_n]; have := h.n; omega, fun g ob hg => by
  rw [up_m] at hg
  rw [h.m g (a.lt hg)]; exact hg, fun b o v hv => by
  rw [up_c, ← h.c] at hv
  exact ld_c hv⟩
theorem AS.ext' {a b : AS} (hm : ∀ g, a.m g = b.m g) (hc : a.c = b.c) (hn : a.n = b.n) : a = b := by
  cases a; cases b
  simp only at hc hn
  obtain rfl := funext hm
  subst hc; subst hn
  congr 1
theorem put_same {g : Nat} {ob : Ob} (h : σ.m g = some ob) : σ.put g ob = σ := AS.ext' (fun k => by
  by_cases e : k = g
  · subst e; rw [put_eq, h]; rfl
  · rw [put_ne e]) rfl rfl
theorem put_comm {g h : Nat} {x y : Ob} (hn : g ≠ h) : (σ.put g x).put h y = (σ.put h y).put g x := AS.ext' (fun k => by
  by_cases e : k = g
  · subst e; rw [put_ne hn, put_eq, put_eq, put_ne hn]
  · by_cases e2 : k = h
    · subst e2; rw [put_eq, put_ne e, put_ne e, put_eq]
    · rw [put_ne e2, put_ne e, put_ne e, put_ne e2]) rfl rfl
theorem put_up {g j : Nat} {x : Ob} : (σ.put g x).up j = (σ.up j).put g x := rfl
theorem gar_end {v : Value} (hk : ∀ j, k v (a.up j)) (h : Gar a σ) : ∃ σ', Wk σ σ' ∧ k v σ' := ⟨_, h.wk, hk _⟩
end
end Go.Proofs.YtpnefcapiiemdaaGreatDoor.E

/- append and copy over abstract states. Conditions: as each theorem says. -/
namespace Go.Proofs.YtpnefcapiiemdaaGreatDoor.E
open Go.RowKit

/-- Of what was there in a only the blocks in S may have turned in σ. -/
structure Chg (S : List Nat) (a σ : AS) : Prop where
  n : a.n ≤ σ.n
  m : ∀ g, g < a.n → g ∉ S → σ.m g = a.m g
  c : σ.c = a.c
/-- The block of a slice that leads to one. -/
def ownL : Value → List Nat
  | .slice (some a) _ _ => [a.block]
  | _ => []
/-- v is a slice of the walk's own, of n elements (sz cells each), the cells xs. -/
def OwnV (σ : AS) (v : Value) (n sz : Nat) (xs : List Value) : Prop :=
  (v = .slice none 0 0 ∧ n = 0 ∧ xs = []) ∨
  ∃ g c sp, v = .slice (some ⟨g, 0, none⟩) n c ∧ σ.m g = some (.cells (xs ++ sp)) ∧ xs.length = n * sz ∧ (xs ++ sp).length = c * sz ∧ n ≤ c ∧ c ≤ maxLen
section
variable {P : Program} {a b σ σ' : AS} {w : World} {k : Value → AS → Prop} {S T : List Nat} {v : Value} {n sz : Nat} {xs : List Value}
theorem Gar.chg (h : Gar a σ) : Chg [] a σ := ⟨h.n, fun g hg _ => h.m g hg, h.c⟩
theorem Chg.gar (h : Chg [] a σ) : Gar a σ := ⟨h.n, fun g hg => h.m g hg (by simp), h.c⟩
theorem Chg.refl (S : List Nat) (a : AS) : Chg S a a := ⟨Nat.le_refl _, fun _ _ _ => rfl, rfl⟩
theorem Chg.step (h : Chg S a b) (k : Chg T b σ) (ht : ∀ i, i ∈ T → i ∈ S ∨ a.n ≤ i) : Chg S a σ :=
  ⟨Nat.le_trans h.n k.n, fun g hg hn => (k.m g (Nat.lt_of_lt_of_le hg h.n) (fun hT => by
    rcases ht g hT with h1 | h1
    · exact hn h1
    · omega)).trans (h.m g hg hn), k.c.trans h.c⟩
theorem Chg.new (h : Chg S a σ) (ob : Ob) : Chg S a (σ.new ob) := ⟨by rw [new_n]; have := h.n; omega, fun g hg hn => by rw [new_ne (by have := h.n; omega)]; exact h.m g hg hn, h.c⟩
theorem Chg.up (h : Chg S a σ) (j : Nat) : Chg S a (σ.up j) := ⟨by rw [up_n]; have := h.n; omega, h.m, h.c⟩
theorem Chg.put (h : Chg S a σ) {g : Nat} (hg : g ∈ S ∨ a.n ≤ g) (ob : Ob) : Chg S a (σ.put g ob) := ⟨h.n, fun k hk hn => by
  rw [put_ne (by
    rintro rfl
    rcases hg with h1 | h1
    · exact hn h1
    · omega)]
  exact h.m k hk hn, h.c⟩
theorem Chg.two {c : AS} (h : Chg [] a b) (k : Chg S b c) (hS : ∀ g, g ∈ S → a.n ≤ g) : Chg [] a c := h.step k fun i hi => .inr (hS i hi)
theorem Chg.del (h : Chg S a σ) {g : Nat} (hg : g ∈ S ∨ a.n ≤ g) : Chg S a (σ.del g) := ⟨h.n, fun k hk hn => by
  rw [del_ne (by
    rintro rfl
    rcases hg with h1 | h1
    · exact hn h1
    · omega)]
  exact h.m k hk hn, h.c⟩
theorem ownL_s (x : Addr) (n c : Nat) : ownL (.slice (some x) n c) = [x.block] := rfl
theorem ownL_n (n c : Nat) : ownL (.slice none n c) = [] := rfl
theorem OwnV.nil (σ : AS) (sz : Nat) : OwnV σ (.slice none 0 0) 0 sz [] := .inl ⟨rfl, rfl, rfl⟩
theorem OwnV.len (h : OwnV σ v n sz xs) : xs.length = n * sz := by
  rcases h with ⟨_, rfl, rfl⟩ | ⟨_, _, _, _, _, h, _⟩
  · simp
  · exact h
theorem OwnV.lt (h : OwnV σ v n sz xs) {g : Nat} (hg : g ∈ ownL v) : g < σ.n := by
  rcases h with ⟨rfl, _, _⟩ | ⟨g', c, sp, rfl, hm, _⟩
  · simp [ownL] at hg
  · simp [ownL] at hg
    subst hg
    exact σ.lt hm
theorem OwnV.chg (h : OwnV σ v n sz xs) (k : Chg S σ σ') (hn : ∀ g, g ∈ ownL v → g ∉ S) : OwnV σ' v n sz xs := by
  rcases h with h | ⟨g, c, sp, rfl, hm, r⟩
  · exact .inl h
  · exact .inr ⟨g, c, sp, rfl, (k.m g (σ.lt hm) (hn g (by simp [ownL]))).trans hm, r⟩
theorem OwnV.gar (h : OwnV σ v n sz xs) (k : Gar σ σ') : OwnV σ' v n sz xs := h.chg k.chg (fun _ _ => by simp)
theorem OwnV.val (h : OwnV σ v n sz xs) : ∃ x c, v = .slice x n c ∧ n ≤ c := by
  rcases h with ⟨rfl, rfl, _⟩ | ⟨g, c, sp, rfl, _, _, _, h, _⟩
  · exact ⟨none, 0, rfl, Nat.le_refl _⟩
  · exact ⟨_, c, rfl, h⟩
/-- A row that was just made. -/
theorem OwnV.made (σ : AS) (l : List Value) (n sz : Nat) (hl : l.length = n * sz) (hn : n ≤ maxLen) : OwnV (σ.new (.cells l)) (.slice (some ⟨σ.n, 0, none⟩) n n) n sz l :=
  .inr ⟨σ.n, n, [], rfl, by rw [new_eq_, List.append_nil], hl, by rw [List.append_nil]; exact hl, Nat.le_refl _, hn⟩

/-- An element type's size in cells, in bytes. -/
def infB (P : Program) (e : TypeId) (sz bytes : Nat) : Bool :=
  match P.info? e with
  | some i => (match i.zero with | some z => i.size == sz && i.bytes == bytes && z.cells.size == sz && decide (0 < sz) | none => false)
  | none => false
theorem infB_ok {e : TypeId} {sz bytes : Nat} (h : infB P e sz bytes = true) : ∃ i z, P.info? e = some i ∧ i.zero = some z ∧ i.size = sz ∧ i.bytes = bytes ∧ z.cells.size = sz ∧ 0 < sz := by
  unfold infB at h
  split at h
  · rename_i i hi
    split at h
    · rename_i z hz
      simp only [Bool.and_eq_true, beq_iff_eq, decide_eq_true_eq] at h
      exact ⟨i, z, hi, hz, h.1.1.1, h.1.1.2, h.1.2, h.2⟩
    · cases h
  · cases h
theorem run_room (w : World) (t ty e t0 : TypeId) (i : TypeInfo) (ht : P.underlying t = some (.slice e)) (hi : P.info? e = some i)
    (g sLen sCap : Nat) (cur : Array Value) (hg : w.heap[g]? = some (.cells cur t0 (0, 0)))
    (a : Addr) (m c : Nat) (news : List Value) (hl : news.length = m * i.size) (hnews : ∀ j u, news[j]? = some u → w.cell? (a.add j) = some u) (h1 : ∀ u ∈ news, u.oneCell' = true)
    (hroom : sLen + m ≤ sCap) (hfit : sLen * i.size + news.length ≤ cur.size) :
    (Builtin.append_ #[t, t] ty #[.slice (some ⟨g, 0, none⟩) sLen sCap, .slice (some a) m c]).run P w =
      .ok (.slice (some ⟨g, 0, none⟩) (sLen + m) sCap) (w.setRow g (cur.toList.take (sLen * i.size) ++ news ++ cur.toList.drop (sLen * i.size + news.length)).toArray) := by
  have hf := run_firstCells_some (P := P) w i.size m a m c news hl hnews
  have hst := run_storeCells_at P g (sLen * i.size) t0 news 0 cur w hg (by simpa using hfit) h1
  simp only [Nat.add_zero] at hst
  have hadd : (⟨g, 0, none⟩ : Addr).add (sLen * i.size) = ⟨g, sLen * i.size, none⟩ := by rw [E.add_eq]; simp
  simp [Builtin.append_, run_underlying ht, sizeOf, typeInfo, hi, Builtin.lenOf, hroom, hf, hadd, hst]
theorem cells_of_lds (hw : Sat σ w) {b o : Nat} : ∀ {n : Nat} {l : List Value} {o : Nat}, ldsS σ b o n = some l → ∀ j u, l[j]? = some u → w.cell? ⟨b, o + j, none⟩ = some u
  | 0, l, o, h, j, u, hu => by injection h with h; subst h; simp at hu
  | n + 1, l, o, h, j, u, hu => by
    simp only [ldsS, Option.bind_eq_some_iff, Option.map_eq_some_iff] at h
    obtain ⟨v, hv, r, hr, rfl⟩ := h
    cases j with
    | zero => simp at hu; subst hu; exact hw.ld hv
    | succ j =>
      have := cells_of_lds hw (b := b) (o := o) hr j u (by simpa using hu)
      rw [show o + (j + 1) = o + 1 + j from by omega]
      exact this
theorem ldsS_len {b : Nat} : ∀ {n o : Nat} {l : List Value}, ldsS σ b o n = some l → l.length = n
  | 0, o, l, h => by injection h with h; subst h; rfl
  | n + 1, o, l, h => by
    simp only [ldsS, Option.bind_eq_some_iff, Option.map_eq_some_iff] at h
    obtain ⟨v, hv, r, hr, rfl⟩ := h
    simp [ldsS_len hr]
theorem Sat.drew (h : Sat σ w) : Sat σ w.drew := ⟨h.sz, fun g ob hg => obAt_congr (w := w) rfl (h.m g ob hg), h.c⟩
theorem KeepP.drew_alloc (S : Nat → Prop) (w : World) (o : Obj) : KeepP S w (w.drew.alloc o) := (⟨rfl, rfl, rfl, Nat.le_refl _, fun _ _ _ => rfl⟩ : KeepP S w w.drew).step (KeepP.alloc (fun _ => False) w.drew o) (fun _ h => h.elim)

theorem app_by {t e bytes m c b o : Nat} {news : List Value} (ht : P.underlying t = some (.slice e)) (hi : infB P e sz bytes = true) (hown : OwnV σ v n sz xs)
    (hn : ldsS σ b o (m * sz) = some news) (h1 : news.all okCell = true) (hlen : (n + m) * bytes ≤ 140737488355328) (hlen' : n + m ≤ maxLen)
    (hk : ∀ v' σ', OwnV σ' v' (n + m) sz (xs ++ news) → Chg (ownL v) σ σ' → (∀ g, g ∈ ownL v' → g ∈ ownL v ∨ g = σ.n) → k v' σ') : kApp P t t v (.slice (some ⟨b, o, none⟩) m c) σ k := by
  obtain ⟨i, z, hi1, hi2, hi3, hi4, hi5, hi6⟩ := infB_ok hi
  have hl := ldsS_len hn
  intro w hw
  have hcell : ∀ j u, news[j]? = some u → w.cell? ((⟨b, o, none⟩ : Addr).add j) = some u := fun j u hu => by
    rw [E.add_eq]; exact cells_of_lds hw (b := b) (o := o) hn j u hu
  have hok : ∀ u ∈ news, u.oneCell' = true := fun u hu => by rw [okCell_eq]; exact List.all_eq_true.1 h1 u hu
  have hml : n + m ≤ 9223372036854775807 := by unfold maxLen at hlen'; omega
  -- the growing arm
  have grown : ∀ (old : Nat), old < n + m → xs.length = n * sz → (∀ g, g ∈ ownL v → True) → ∀ cap, cap = grownCap w (n + m) old e →
      Out σ w k (.slice (some ⟨w.heap.size, 0, none⟩) (n + m) cap) (w.drew.alloc (.cells (xs.toArray ++ news.toArray ++ Builtin.zeroCells z.cells (cap - (n + m))) e)) := by
    rintro old ho hxl _ cap rfl
    have hge := grownCap_ge w (n + m) old e
    have hcm : grownCap w (n + m) old e ≤ maxLen := grownCap_le_maxLen w (n + m) old e hlen'
    have hz : w.heap.size = σ.n := hw.sz
    have hnew := hw.drew.new (xs ++ news ++ (Builtin.zeroCells z.cells (grownCap w (n + m) old e - (n + m))).toList) e
    have harr : (xs ++ news ++ (Builtin.zeroCells z.cells (grownCap w (n + m) old e - (n + m))).toList).toArray = xs.toArray ++ news.toArray ++ Builtin.zeroCells z.cells (grownCap w (n + m) old e - (n + m)) := by
      apply Array.toList_inj.1; simp
    refine ⟨KeepP.drew_alloc _ _ _, σ.new (.cells (xs ++ news ++ (Builtin.zeroCells z.cells (grownCap w (n + m) old e - (n + m))).toList)), ?_, Fol.new _ _, ?_⟩
    · have : new w.drew (xs ++ news ++ (Builtin.zeroCells z.cells (grownCap w (n + m) old e - (n + m))).toList) e = w.drew.alloc (.cells (xs.toArray ++ news.toArray ++ Builtin.zeroCells z.cells (grownCap w (n + m) old e - (n + m))) e) := by
        unfold new; rw [harr]
      rw [← this]; exact hnew
    · rw [hz]
      refine hk _ _ (.inr ⟨σ.n, _, _, rfl, by rw [new_eq_], by rw [List.length_append, hxl, hl, Nat.add_mul], ?_, hge, hcm⟩) ((Chg.refl _ _).new _) (fun g hg => ?_)
      · simp only [List.length_append, Array.length_toList, size_zeroCells, hi5, hxl, hl, ← Nat.add_mul]
        congr 1; omega
      · simp [ownL] at hg; exact .inr hg
  rcases hown with ⟨rfl, rfl, rfl⟩ | ⟨g, cap, sp, rfl, hm, hxl, hcl, hnc, hcm⟩
  · by_cases hm0 : m = 0
    · subst hm0
      have : news = [] := List.eq_nil_of_length_eq_zero (by simpa using hl)
      subst this
      refine ⟨.slice none 0 0, w, ?_, KeepP.refl _ _, σ, hw, Fol.refl _, hk _ _ (.inl ⟨rfl, rfl, rfl⟩) (Chg.refl _ _) (fun g hg => .inl hg)⟩
      simp [Builtin.append_, run_underlying ht, sizeOf, typeInfo, hi1, Builtin.lenOf, Builtin.firstCells, loadCells, loadCellsFrom]
    · have hr := run_append_nil (P := P) w t 0 e i z ht hi1 hi2 ⟨b, o, none⟩ m c news (by rw [hl, hi3]) hcell (by omega) (by omega) (by rw [hi4]; simp only [Nat.zero_add] at hlen; omega)
      have := grown 0 (by omega) (by simp) (fun _ _ => trivial) _ rfl
      simp only [Nat.zero_add, Array.empty_append] at this
      refine ⟨_, _, hr, ?_⟩
      exact this
  · have hb : blk w g = some (xs ++ sp) := hw.m g _ hm
    obtain ⟨t0, ht0⟩ := blk_some hb
    by_cases hroom : n + m ≤ cap
    · have hfit : n * i.size + news.length ≤ (xs ++ sp).toArray.size := by
        rw [List.size_toArray, hcl, hl, hi3, ← Nat.add_mul]; exact Nat.mul_le_mul_right _ hroom
      have hr := run_room (P := P) w t 0 e t0 i ht hi1 g n cap _ ht0 ⟨b, o, none⟩ m c news (by rw [hl, hi3]) hcell hok hroom hfit
      refine ⟨_, _, hr, ?_⟩
      rw [put_row hb]
      refine ⟨KeepP.put_ (by unfold AS.live; rw [hm]; simp) _, _, hw.put hm _, Fol.put _ _ _, ?_⟩
      have e1 : ((xs ++ sp).toArray.toList.take (n * i.size) ++ news ++ (xs ++ sp).toArray.toList.drop (n * i.size + news.length)) = (xs ++ news) ++ sp.drop news.length := by
        rw [hi3, ← hxl]
        simp only [List.take_left, List.append_assoc]
        rw [← List.drop_drop, List.drop_left]
      rw [e1]
      refine hk _ _ (.inr ⟨g, cap, sp.drop news.length, rfl, by rw [put_eq, hm]; rfl, by rw [List.length_append, hxl, hl, Nat.add_mul], ?_, hroom, hcm⟩) ((Chg.refl _ _).put (.inl (by simp [ownL])) _) (fun g' hg' => .inl (by simpa [ownL] using hg'))
      have h2 : (n + m) * sz ≤ cap * sz := Nat.mul_le_mul_right _ hroom
      rw [Nat.add_mul] at h2
      simp only [List.length_append, List.length_drop, hxl, hl] at hcl ⊢
      omega
    · have holds : ∀ j u, xs[j]? = some u → w.cell? ((⟨g, 0, none⟩ : Addr).add j) = some u := fun j u hu => by
        rw [E.add_eq, cel hb, List.getElem?_append_left (by have := (List.getElem?_eq_some_iff.1 hu).1; omega), Nat.zero_add]; exact hu
      have hr := run_append_grow (P := P) w t 0 e i z ht hi1 hi2 ⟨g, 0, none⟩ n cap xs (by rw [hxl, hi3]) holds ⟨b, o, none⟩ m c news (by rw [hl, hi3]) hcell (by omega) (by omega) (growslice_fits (by omega) (by rw [hi4]; exact hlen))
      exact ⟨_, _, hr, grown cap (by omega) hxl (fun _ _ => trivial) _ rfl⟩
theorem put_out (hw : Sat σ w) {g : Nat} {l l' : List Value} (hb : σ.m g = some (.cells l)) {v : Value} (hk : k v (σ.put g (.cells l'))) : Out σ w k v (put w g l') :=
  ⟨KeepP.put_ (by unfold AS.live; rw [hb]; simp) _, _, hw.put hb _, Fol.put _ _ _, hk⟩
theorem cvb_by {K : Value → Prop} {b o n c : Nat} {l : List UInt8} (hn : l.length = n) (hl : ldsS σ b o n = some (l.map fun b => .int .u8 b.toNat)) (h : K (.string (bs l))) : kCvBS σ (.slice (some ⟨b, o, none⟩) n c) K := ⟨rfl, l, hn, hl, h⟩
theorem cvb_all {K : Value → Prop} {b n c : Nat} {l : List UInt8} (hb : σ.m b = some (.cells (l.map fun b => .int .u8 b.toNat))) (hn : l.length = n) (h : K (.string (bs l))) : kCvBS σ (.slice (some ⟨b, 0, none⟩) n c) K :=
  cvb_by hn (by rw [ldsM hb n 0 (by simp [hn]), List.drop_zero, List.take_of_length_le (by simp [hn])]) h
/-- copy of a string into a row of bytes. -/
theorem cpy_str {t u e g o n c : Nat} {s : List UInt8} {l : List Value} (ht : P.underlying t = some (.slice e)) (hi : szOf P e = some 1) (hb : σ.m g = some (.cells l)) (hn : s.length ≤ n) (hfit : o + s.length ≤ l.length)
    (hk : k (.int .i64 s.length) (σ.put g (.cells (l.take o ++ (s.map fun b => .int .u8 b.toNat) ++ l.drop (o + s.length))))) : kCpy P t u (.slice (some ⟨g, o, none⟩) n c) (.string (bs s)) σ k := by
  intro w hw
  have hb' : blk w g = some l := hw.m g _ hb
  obtain ⟨ty, hty⟩ := blk_some hb'
  have hmin : Nat.min s.length n = s.length := Nat.min_eq_left hn
  have hex : ((bs s).extract 0 s.length).data.map (fun b => (Value.int .u8 b.toNat)) = (s.map fun b => (Value.int .u8 b.toNat)).toArray := by
    rw [bs_extract]; simp [bs]
  have hst := run_storeCells_at P g o ty (s.map fun b => .int .u8 b.toNat) 0 l.toArray w hty (by simpa using hfit) (by intro v hv; simp at hv; obtain ⟨b, _, rfl⟩ := hv; rfl)
  simp only [Nat.add_zero, List.length_map] at hst
  rw [put_row hb'] at hst
  refine ⟨_, _, ?_, put_out hw hb hk⟩
  simp only [Builtin.copy_, Sem.run_bind, List.getElem?_toArray, List.getElem?_cons_zero, List.getElem?_cons_succ, run_underlying ht, Result.andThen_ok, Builtin.lenOf, bs_size, Sem.run_pure, hmin, szOf_run hi, Builtin.firstCells, hex, hst, goInt]
/-- copy of a row into a row. -/
theorem cpy_row {t u e g o n c b o2 m c2 : Nat} {l news : List Value} (ht : P.underlying t = some (.slice e)) (hi : szOf P e = some sz) (hb : σ.m g = some (.cells l)) (hn : ldsS σ b o2 (Nat.min m n * sz) = some news) (h1 : news.all okCell = true) (hfit : o + news.length ≤ l.length)
    (hk : k (.int .i64 (Nat.min m n)) (σ.put g (.cells (l.take o ++ news ++ l.drop (o + news.length))))) : kCpy P t u (.slice (some ⟨g, o, none⟩) n c) (.slice (some ⟨b, o2, none⟩) m c2) σ k := by
  intro w hw
  have hb' : blk w g = some l := hw.m g _ hb
  obtain ⟨ty, hty⟩ := blk_some hb'
  have hlds := lds_run (P := P) (w := w) ⟨b, o2, none⟩ (Nat.min m n * sz) 0 news #[] (hw.lds (a := ⟨b, o2, none⟩) rfl (i := 0) hn)
  have hst := run_storeCells_at P g o ty news 0 l.toArray w hty (by simpa using hfit) (fun v hv => by rw [okCell_eq]; exact List.all_eq_true.1 h1 v hv)
  simp only [Nat.add_zero] at hst
  rw [put_row hb'] at hst
  refine ⟨_, _, ?_, put_out hw hb hk⟩
  simp only [Builtin.copy_, Sem.run_bind, List.getElem?_toArray, List.getElem?_cons_zero, List.getElem?_cons_succ, run_underlying ht, Result.andThen_ok, Builtin.lenOf, Sem.run_pure, szOf_run hi, Builtin.firstCells, loadCells, hlds]
  simp only [Array.empty_append, hst, Result.andThen_ok, goInt]
end
end Go.Proofs.YtpnefcapiiemdaaGreatDoor.E
