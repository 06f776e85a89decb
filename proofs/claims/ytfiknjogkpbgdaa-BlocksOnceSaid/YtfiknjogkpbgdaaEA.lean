/- The rules by which a body is walked. Conditions: none. -/
import Derived.Test.YtfiknjogkpbgdaaE9
namespace Go.Proofs.Ytfiknjogkpbgdaa.E
open Go.RowKit

section
variable {P : Program} {ρ : Env} {w : World} {k : Value → World → Prop} {Q : Post}
/-! ### What stands in the way, with what comes behind it as data -/
def goO (P : Program) (o : Option Value) (d : Option Nat) (r : List St) (Q : Post) (ρ : Env) (w : World) : Prop := seqO o fun v => vcL P r Q (upd ρ d v) w
def goW (P : Program) (o : Option World) (d : Option Nat) (r : List St) (Q : Post) (ρ : Env) : Prop := seqO o fun w => vcL P r Q (upd ρ d undef) w
def goB (P : Program) (o : Option Bool) (neg : Bool) (d : Option Nat) (r : List St) (Q : Post) (ρ : Env) (w : World) : Prop := seqO o fun b => vcL P r Q (upd ρ d (.bool (b != neg))) w
def goP (P : Program) (o : Option Bool) (a b : Arg) (d : Option Nat) (r : List St) (Q : Post) (ρ : Env) (w : World) : Prop := seqO o fun t => vcL P r Q (upd ρ d (if t then a.ev ρ else b.ev ρ)) w
def goA (P : Program) (o : Option (List Value)) (d : Option Nat) (r : List St) (Q : Post) (ρ : Env) (w : World) : Prop := seqO o fun l => vcL P r Q (upd ρ d (.agg l.toArray)) w
def goN (P : Program) (o : Option (List Value)) (e : TypeId) (n : Nat) (d : Option Nat) (r : List St) (Q : Post) (ρ : Env) (w : World) : Prop := seqO o fun l => vcL P r Q (upd ρ d (.slice (some ⟨size w, 0, none⟩) n n)) (new w l e)
def goCall (P : Program) (f : Nat) (args : List Value) (d : Option Nat) (r : List St) (Q : Post) (ρ : Env) (w : World) : Prop := callP P f args w fun v w' => vcL P r Q (upd ρ d v) w'
def goCallv (P : Program) (f : Value) (args : List Value) (d : Option Nat) (r : List St) (Q : Post) (ρ : Env) (w : World) : Prop := callvP P f args w fun v w' => vcL P r Q (upd ρ d v) w'
def goApp (P : Program) (t u : TypeId) (x y : Value) (d : Option Nat) (r : List St) (Q : Post) (ρ : Env) (w : World) : Prop := appP P t u x y w fun v w' => vcL P r Q (upd ρ d v) w'
def goCpy (P : Program) (t u : TypeId) (x y : Value) (d : Option Nat) (r : List St) (Q : Post) (ρ : Env) (w : World) : Prop := cpyP P t u x y w fun v w' => vcL P r Q (upd ρ d v) w'
def goMks (P : Program) (e : TypeId) (sz bytes : Nat) (z : List Value) (l c : Value) (d : Option Nat) (r : List St) (Q : Post) (ρ : Env) (w : World) : Prop := mksP e sz bytes z l c w fun v w' => vcL P r Q (upd ρ d v) w'
def goCvb (P : Program) (x : Value) (d : Option Nat) (r : List St) (Q : Post) (ρ : Env) (w : World) : Prop := cvBSP w x fun v => vcL P r Q (upd ρ d v) w
def goC (P : Program) (v : Value) (a b : S) (Q : Post) (ρ : Env) (w : World) : Prop := condP v (vcS P a Q ρ w) (vcS P b Q ρ w)
def goG (P : Program) (v : Value) (want : Bool) (d : Option Nat) (i : Ins) (r : List St) (Q : Post) (ρ : Env) (w : World) : Prop := grdP v want (vcL P (⟨d, none, i⟩ :: r) Q ρ w) (vcL P r Q (upd ρ d undef) w)
def drewQ (w : World) (Q : Post) : Post := fun e ρ' _ => ∀ n, Q e ρ' (w.drewN n)
def goR (o : Option Value) (vs : List Value) (r : List RV) (R : Value → World → Prop) (ρ : Env) (w : World) : Prop := seqO o fun v => resP r ρ w (fun us => R (tupV (vs ++ v :: us)) w)
def goRs (vs : List Value) (r : List RV) (R : Value → World → Prop) (ρ : Env) (w : World) : Prop := resP r ρ w (fun us => R (tupV (vs ++ us)) w)

/-! ### Code -/
theorem s_skip : vcS P .skip Q ρ w = Q .normal ρ w := rfl
theorem s_ops (l : List St) : vcS P (.ops l) Q ρ w = vcL P l Q ρ w := rfl
theorem s_dops (l : List St) : vcS P (.dops l) Q ρ w = vcL P l (drewQ w Q) ρ w := rfl
theorem q_drew (w' : World) : drewQ w Q .normal ρ w' = ∀ n, Q .normal ρ (w.drewN n) := rfl
theorem s_seq (a b : S) : vcS P (.seq a b) Q ρ w = vcS P a (thenQ (vcS P b Q) Q) ρ w := rfl
theorem s_cond (c : Arg) (a b : S) : vcS P (.cond c a b) Q ρ w = goC P (c.ev ρ) a b Q ρ w := rfl
theorem s_blk (id : Nat) (a : S) : vcS P (.blk id a) Q ρ w = vcS P a (blkQ id Q) ρ w := rfl
theorem s_exit (id : Nat) : vcS P (.exit id) Q ρ w = Q (.exit id) ρ w := rfl
theorem s_ret : vcS P .ret Q ρ w = Q .ret ρ w := rfl
theorem q_then_n (K : Env → World → Prop) : thenQ K Q .normal ρ w = K ρ w := rfl
theorem q_then_r (K : Env → World → Prop) : thenQ K Q .ret ρ w = Q .ret ρ w := rfl
theorem q_then_e (K : Env → World → Prop) (i : Nat) : thenQ K Q (.exit i) ρ w = Q (.exit i) ρ w := rfl
theorem q_blk_n (id : Nat) : blkQ id Q .normal ρ w = Q .normal ρ w := rfl
theorem q_blk_r (id : Nat) : blkQ id Q .ret ρ w = Q .ret ρ w := rfl
theorem q_blk_e (id i : Nat) : blkQ id Q (.exit i) ρ w = if i = id then Q .normal ρ w else Q (.exit i) ρ w := rfl
theorem q_ret_r (rs : List RV) (R : Value → World → Prop) : retQ rs R .ret ρ w = goRs [] rs R ρ w := rfl
theorem q_ret_n (rs : List RV) (R : Value → World → Prop) : retQ rs R .normal ρ w = goRs [] rs R ρ w := rfl
theorem r_nil (vs : List Value) (R : Value → World → Prop) : goRs vs [] R ρ w = R (tupV vs) w := by simp [goRs, resP]
theorem r_t (s : Nat) (r : List RV) (vs : List Value) (R : Value → World → Prop) : goRs vs (.t s :: r) R ρ w = goRs (vs ++ [ρ s]) r R ρ w := by simp [goRs, resP]
theorem r_ld (s : Nat) (r : List RV) (vs : List Value) (R : Value → World → Prop) : goRs vs (.ld s :: r) R ρ w = goR (ldV w (ρ s)) vs r R ρ w := rfl
theorem r_ldN (n s : Nat) (r : List RV) (vs : List Value) (R : Value → World → Prop) : goRs vs (.ldN n s :: r) R ρ w = goR (ldNV w n (ρ s)) vs r R ρ w := rfl
theorem go_r (v : Value) (vs : List Value) (r : List RV) (R : Value → World → Prop) : goR (some v) vs r R ρ w = goRs (vs ++ [v]) r R ρ w := by simp [goRs, goR, seqO]
theorem t_one (v : Value) : tupV [v] = v := rfl
theorem t_two (u v : Value) : tupV [u, v] = .tuple #[u, v] := rfl
theorem t_three (u v x : Value) : tupV [u, v, x] = .tuple #[u, v, x] := rfl
theorem t_four (u v x y : Value) : tupV [u, v, x, y] = .tuple #[u, v, x, y] := rfl
theorem t_nil : tupV [] = undef := rfl
theorem l_nil : vcL P [] Q ρ w = Q .normal ρ w := rfl
theorem l_grd (d : Option Nat) (g : Nat) (b : Bool) (i : Ins) (r : List St) : vcL P (⟨d, some (g, b), i⟩ :: r) Q ρ w = goG P (ρ g) b d i r Q ρ w := rfl
theorem c_t (a b : S) : goC P (.bool true) a b Q ρ w = vcS P a Q ρ w := rfl
theorem c_f (a b : S) : goC P (.bool false) a b Q ρ w = vcS P b Q ρ w := rfl
theorem g_tt (d : Option Nat) (i : Ins) (r : List St) : goG P (.bool true) true d i r Q ρ w = vcL P (⟨d, none, i⟩ :: r) Q ρ w := rfl
theorem g_ff (d : Option Nat) (i : Ins) (r : List St) : goG P (.bool false) false d i r Q ρ w = vcL P (⟨d, none, i⟩ :: r) Q ρ w := rfl
theorem g_tf (d : Option Nat) (i : Ins) (r : List St) : goG P (.bool true) false d i r Q ρ w = vcL P r Q (upd ρ d undef) w := rfl
theorem g_ft (d : Option Nat) (i : Ins) (r : List St) : goG P (.bool false) true d i r Q ρ w = vcL P r Q (upd ρ d undef) w := rfl
theorem g_u (b : Bool) (d : Option Nat) (i : Ins) (r : List St) : goG P undef b d i r Q ρ w = vcL P r Q (upd ρ d undef) w := rfl
theorem go_o (v : Value) (d : Option Nat) (r : List St) : goO P (some v) d r Q ρ w = vcL P r Q (upd ρ d v) w := rfl
theorem go_w (d : Option Nat) (r : List St) : goW P (some w) d r Q ρ = vcL P r Q (upd ρ d undef) w := rfl
theorem go_b (b neg : Bool) (d : Option Nat) (r : List St) : goB P (some b) neg d r Q ρ w = vcL P r Q (upd ρ d (.bool (b != neg))) w := rfl
theorem go_pt (a b : Arg) (d : Option Nat) (r : List St) : goP P (some true) a b d r Q ρ w = vcL P r Q (upd ρ d (a.ev ρ)) w := rfl
theorem go_pf (a b : Arg) (d : Option Nat) (r : List St) : goP P (some false) a b d r Q ρ w = vcL P r Q (upd ρ d (b.ev ρ)) w := rfl
theorem go_a (l : List Value) (d : Option Nat) (r : List St) : goA P (some l) d r Q ρ w = vcL P r Q (upd ρ d (.agg l.toArray)) w := rfl
theorem go_n (l : List Value) (e : TypeId) (n : Nat) (d : Option Nat) (r : List St) : goN P (some l) e n d r Q ρ w = vcL P r Q (upd ρ d (.slice (some ⟨size w, 0, none⟩) n n)) (new w l e) := rfl

/-! ### Instructions -/
theorem i_mov (x : Arg) (d : Option Nat) (r : List St) : vcL P (⟨d, none, .mov x⟩ :: r) Q ρ w = goO P (some (x.ev ρ)) d r Q ρ w := rfl
theorem i_pick (c a b : Arg) (d : Option Nat) (r : List St) : vcL P (⟨d, none, .pick c a b⟩ :: r) Q ρ w = goP P (asB (c.ev ρ)) a b d r Q ρ w := rfl
theorem i_bin (op : BinOp) (x y : Arg) (d : Option Nat) (r : List St) : vcL P (⟨d, none, .bin op x y⟩ :: r) Q ρ w = goO P (binV op (x.ev ρ) (y.ev ρ)) d r Q ρ w := rfl
theorem i_sft (op : BinOp) (x y : Arg) (d : Option Nat) (r : List St) : vcL P (⟨d, none, .sft op x y⟩ :: r) Q ρ w = goO P (sftV op (x.ev ρ) (y.ev ρ)) d r Q ρ w := rfl
theorem i_eq (kd : Nat) (neg : Bool) (x y : Arg) (d : Option Nat) (r : List St) : vcL P (⟨d, none, .eq kd neg x y⟩ :: r) Q ρ w = goB P (eqV kd (x.ev ρ) (y.ev ρ)) neg d r Q ρ w := rfl
theorem i_eqi (neg : Bool) (x y : Arg) (d : Option Nat) (r : List St) : vcL P (⟨d, none, .eqi neg x y⟩ :: r) Q ρ w = goB P (eqI (x.ev ρ) (y.ev ρ)) neg d r Q ρ w := rfl
theorem i_un (op : UnOp) (x : Arg) (d : Option Nat) (r : List St) : vcL P (⟨d, none, .un op x⟩ :: r) Q ρ w = goO P (unV op (x.ev ρ)) d r Q ρ w := rfl
theorem i_load (x : Arg) (d : Option Nat) (r : List St) : vcL P (⟨d, none, .load x⟩ :: r) Q ρ w = goO P (ldV w (x.ev ρ)) d r Q ρ w := rfl
theorem i_loadN (n : Nat) (x : Arg) (d : Option Nat) (r : List St) : vcL P (⟨d, none, .loadN n x⟩ :: r) Q ρ w = goO P (ldNV w n (x.ev ρ)) d r Q ρ w := rfl
theorem i_store (n : Nat) (x y : Arg) (d : Option Nat) (r : List St) : vcL P (⟨d, none, .store n x y⟩ :: r) Q ρ w = goW P (stV w n (x.ev ρ) (y.ev ρ)) d r Q ρ := rfl
theorem i_alloc (t : TypeId) (z : List Value) (d : Option Nat) (r : List St) : vcL P (⟨d, none, .alloc t z⟩ :: r) Q ρ w = vcL P r Q (upd ρ d (.pointer (some ⟨size w, 0, none⟩))) (new w z t) := rfl
theorem i_box (t : TypeId) (x : Arg) (d : Option Nat) (r : List St) : vcL P (⟨d, none, .box t x⟩ :: r) Q ρ w = vcL P r Q (upd ρ d (.pointer (some ⟨size w, 0, none⟩))) (new w (cellsV (x.ev ρ)) t) := rfl
theorem i_build (z : List Value) (ps : List (Nat × Nat × Arg)) (d : Option Nat) (r : List St) : vcL P (⟨d, none, .build z ps⟩ :: r) Q ρ w = goA P (lay z (layA ρ ps)) d r Q ρ w := rfl
theorem i_bsl (e : TypeId) (n : Nat) (z : List Value) (ps : List (Nat × Nat × Arg)) (d : Option Nat) (r : List St) : vcL P (⟨d, none, .bsl e n z ps⟩ :: r) Q ρ w = goN P (lay z (layA ρ ps)) e n d r Q ρ w := rfl
theorem i_nck (x : Arg) (d : Option Nat) (r : List St) : vcL P (⟨d, none, .nck x⟩ :: r) Q ρ w = goO P (nckV (x.ev ρ)) d r Q ρ w := rfl
theorem i_fld (off : Nat) (x : Arg) (d : Option Nat) (r : List St) : vcL P (⟨d, none, .fld off x⟩ :: r) Q ρ w = goO P (fldV off (x.ev ρ)) d r Q ρ w := rfl
theorem i_get1 (off : Nat) (x : Arg) (d : Option Nat) (r : List St) : vcL P (⟨d, none, .get1 off x⟩ :: r) Q ρ w = goO P (get1V off (x.ev ρ)) d r Q ρ w := rfl
theorem i_getN (off n : Nat) (x : Arg) (d : Option Nat) (r : List St) : vcL P (⟨d, none, .getN off n x⟩ :: r) Q ρ w = goO P (getNV off n (x.ev ρ)) d r Q ρ w := rfl
theorem i_idx (sz : Nat) (x i : Arg) (d : Option Nat) (r : List St) : vcL P (⟨d, none, .idx sz x i⟩ :: r) Q ρ w = goO P (idxV sz (x.ev ρ) (i.ev ρ)) d r Q ρ w := rfl
theorem i_idxA (len sz : Nat) (x i : Arg) (d : Option Nat) (r : List St) : vcL P (⟨d, none, .idxA len sz x i⟩ :: r) Q ρ w = goO P (idxAV len sz (x.ev ρ) (i.ev ρ)) d r Q ρ w := rfl
theorem i_ixS (x i : Arg) (d : Option Nat) (r : List St) : vcL P (⟨d, none, .ixS x i⟩ :: r) Q ρ w = goO P (ixSV (x.ev ρ) (i.ev ρ)) d r Q ρ w := rfl
theorem i_subS (x : Arg) (lo hi : Option Arg) (d : Option Nat) (r : List St) : vcL P (⟨d, none, .subS x lo hi⟩ :: r) Q ρ w = goO P (subSV (x.ev ρ) (lo.map (Arg.ev ρ)) (hi.map (Arg.ev ρ))) d r Q ρ w := rfl
theorem i_subL (sz : Nat) (x : Arg) (lo hi : Option Arg) (d : Option Nat) (r : List St) : vcL P (⟨d, none, .subL sz x lo hi⟩ :: r) Q ρ w = goO P (subLV sz (x.ev ρ) (lo.map (Arg.ev ρ)) (hi.map (Arg.ev ρ))) d r Q ρ w := rfl
theorem i_subA (len sz : Nat) (x : Arg) (lo hi : Option Arg) (d : Option Nat) (r : List St) : vcL P (⟨d, none, .subA len sz x lo hi⟩ :: r) Q ρ w = goO P (subAV len sz (x.ev ρ) (lo.map (Arg.ev ρ)) (hi.map (Arg.ev ρ))) d r Q ρ w := rfl
theorem i_cvi (kd : IntKind) (x : Arg) (d : Option Nat) (r : List St) : vcL P (⟨d, none, .cvi kd x⟩ :: r) Q ρ w = goO P (cviV kd (x.ev ρ)) d r Q ρ w := rfl
theorem i_cvBS (x : Arg) (d : Option Nat) (r : List St) : vcL P (⟨d, none, .cvBS x⟩ :: r) Q ρ w = goCvb P (x.ev ρ) d r Q ρ w := rfl
theorem i_cvSS (x : Arg) (d : Option Nat) (r : List St) : vcL P (⟨d, none, .cvSS x⟩ :: r) Q ρ w = goO P (cssV (x.ev ρ)) d r Q ρ w := rfl
theorem i_mkf (f : Nat) (a b : List Arg) (d : Option Nat) (r : List St) : vcL P (⟨d, none, .mkf f a b⟩ :: r) Q ρ w = vcL P r Q (upd ρ d (.func (.func f) (argsV ρ a).toArray (argsV ρ b).toArray)) w := rfl
theorem i_mks (e : TypeId) (sz bytes : Nat) (z : List Value) (l c : Arg) (d : Option Nat) (r : List St) : vcL P (⟨d, none, .mks e sz bytes z l c⟩ :: r) Q ρ w = goMks P e sz bytes z (l.ev ρ) (c.ev ρ) d r Q ρ w := rfl
theorem i_mkm  (d : Option Nat) (r : List St) : vcL P (⟨d, none, .mkm ⟩ :: r) Q ρ w = vcL P r Q (upd ρ d (.map (some (size w)))) (w.alloc (.map #[] 0)) := rfl
theorem i_ext (i : Nat) (x : Arg) (d : Option Nat) (r : List St) : vcL P (⟨d, none, .ext i x⟩ :: r) Q ρ w = goO P (extV i (x.ev ρ)) d r Q ρ w := rfl
theorem i_len (s : Bool) (x : Arg) (d : Option Nat) (r : List St) : vcL P (⟨d, none, .len s x⟩ :: r) Q ρ w = goO P (lenV s (x.ev ρ)) d r Q ρ w := rfl
theorem i_min2 (x y : Arg) (d : Option Nat) (r : List St) : vcL P (⟨d, none, .min2 x y⟩ :: r) Q ρ w = goO P (min2V (x.ev ρ) (y.ev ρ)) d r Q ρ w := rfl
theorem i_max2 (x y : Arg) (d : Option Nat) (r : List St) : vcL P (⟨d, none, .max2 x y⟩ :: r) Q ρ w = goO P (max2V (x.ev ρ) (y.ev ρ)) d r Q ρ w := rfl
theorem i_call (f : Nat) (as : List Arg) (d : Option Nat) (r : List St) : vcL P (⟨d, none, .call f as⟩ :: r) Q ρ w = goCall P f (argsV ρ as) d r Q ρ w := rfl
theorem i_callv (x : Arg) (as : List Arg) (d : Option Nat) (r : List St) : vcL P (⟨d, none, .callv x as⟩ :: r) Q ρ w = goCallv P (x.ev ρ) (argsV ρ as) d r Q ρ w := rfl
theorem i_app (t u : TypeId) (x y : Arg) (d : Option Nat) (r : List St) : vcL P (⟨d, none, .app t u x y⟩ :: r) Q ρ w = goApp P t u (x.ev ρ) (y.ev ρ) d r Q ρ w := rfl
theorem i_cpy (t u : TypeId) (x y : Arg) (d : Option Nat) (r : List St) : vcL P (⟨d, none, .cpy t u x y⟩ :: r) Q ρ w = goCpy P t u (x.ev ρ) (y.ev ρ) d r Q ρ w := rfl
theorem a_nil : argsV ρ [] = [] := rfl
theorem a_cons (a : Arg) (r : List Arg) : argsV ρ (a :: r) = a.ev ρ :: argsV ρ r := rfl
theorem la_nil : layA ρ [] = [] := rfl
theorem la_cons (i n : Nat) (a : Arg) (r : List (Nat × Nat × Arg)) : layA ρ ((i, n, a) :: r) = (i, n, a.ev ρ) :: layA ρ r := rfl
theorem lay_nil (l : List Value) : lay l [] = some l := rfl
theorem lay_cons (l : List Value) (off n : Nat) (v : Value) (r : List (Nat × Nat × Value)) : lay l ((off, n, v) :: r) = if (cellsV v).length = n ∧ off + n ≤ l.length then lay (l.take off ++ cellsV v ++ l.drop (off + n)) r else none := rfl
theorem go_callv (f : Nat) (a b : List Value) (args : List Value) (d : Option Nat) (r : List St) (h : okFn P f = true) : goCallv P (.func (.func f) a.toArray b.toArray) args d r Q ρ w = goCall P f (a ++ args ++ b) d r Q ρ w := by
  simp [goCallv, goCall, callvP, h]

/-! ### Values -/
theorem v_int (op : BinOp) (kd : IntKind) (a b : Int) : binV op (.int kd a) (.int kd b) = intV op kd a b := by simp [binV]
theorem v_str (op : BinOp) (a b : List UInt8) : binV op (.string (bs a)) (.string (bs b)) = strV op a b := by simp [binV, bs]
theorem v_add (kd : IntKind) (a b : Int) : intV .add kd a b = some (.int kd (kd.wrap (a + b))) := rfl
theorem v_sub (kd : IntKind) (a b : Int) : intV .sub kd a b = some (.int kd (kd.wrap (a - b))) := rfl
theorem v_mul (kd : IntKind) (a b : Int) : intV .mul kd a b = some (.int kd (kd.wrap (a * b))) := rfl
theorem v_eql (kd : IntKind) (a b : Int) : intV .eql kd a b = some (.bool (decide (a = b))) := rfl
theorem v_neq (kd : IntKind) (a b : Int) : intV .neq kd a b = some (.bool (decide (a ≠ b))) := rfl
theorem v_lss (kd : IntKind) (a b : Int) : intV .lss kd a b = some (.bool (decide (a < b))) := rfl
theorem v_leq (kd : IntKind) (a b : Int) : intV .leq kd a b = some (.bool (decide (a ≤ b))) := rfl
theorem v_gtr (kd : IntKind) (a b : Int) : intV .gtr kd a b = some (.bool (decide (b < a))) := rfl
theorem v_geq (kd : IntKind) (a b : Int) : intV .geq kd a b = some (.bool (decide (b ≤ a))) := rfl
theorem s_add (a b : List UInt8) (h : a.length + b.length ≤ 9223372036854775807) : strV .add a b = some (.string (bs (a ++ b))) := by simp [strV, h]
theorem s_eql (a b : List UInt8) : strV .eql a b = some (.bool (decide (a = b))) := rfl
theorem s_neq (a b : List UInt8) : strV .neq a b = some (.bool (decide (a ≠ b))) := rfl
theorem wrap64 (n : Int) (h1 : -9223372036854775808 ≤ n) (h2 : n ≤ 9223372036854775807) : IntKind.i64.wrap n = n := by
  rw [IntKind.wrap_i64]; omega
theorem wrapU8 (n : Int) (h1 : 0 ≤ n) (h2 : n ≤ 255) : IntKind.u8.wrap n = n := by
  simp [IntKind.wrap, IntKind.bits, IntKind.signed]; omega
theorem decT {p : Prop} [Decidable p] (h : p) : decide p = true := by simp [h]
theorem decF {p : Prop} [Decidable p] (h : ¬ p) : decide p = false := by simp [h]
theorem iteT {α : Type} {p : Prop} [Decidable p] {a b : α} (h : p) : (if p then a else b) = a := if_pos h
theorem iteF {α : Type} {p : Prop} [Decidable p] {a b : α} (h : ¬ p) : (if p then a else b) = b := if_neg h
theorem b_b (b : Bool) : asB (.bool b) = some b := rfl
theorem n_ptr (a : Addr) : nckV (.pointer (some a)) = some (.pointer (some a)) := rfl
theorem n_fn (f : FuncId) (a b : Array Value) : nckV (.func (.func f) a b) = some (.func (.func f) a b) := rfl
theorem n_if (t : TypeId) (v : Value) : nckV (.iface t v) = some (.iface t v) := rfl
theorem add_eq (b o n : Nat) : (⟨b, o, none⟩ : Addr).add n = ⟨b, o + n, none⟩ := by
  unfold Addr.add; split <;> simp_all
theorem f_ptr (off b o : Nat) : fldV off (.pointer (some ⟨b, o, none⟩)) = some (.pointer (some ⟨b, o + off, none⟩)) := by
  rw [← add_eq]; rfl
theorem g_one (off : Nat) (cs : List Value) : get1V off (.agg cs.toArray) = cs[off]? := rfl
theorem g_n (off n : Nat) (cs : List Value) : getNV off n (.agg cs.toArray) = some (.agg ((cs.drop off).take n).toArray) := rfl
theorem e_one (i : Nat) (cs : List Value) : extV i (.tuple cs.toArray) = cs[i]? := rfl
theorem x_in (sz b o n c : Nat) (kd : IntKind) (i : Int) (h0 : 0 ≤ i) (h1 : i < n) : idxV sz (.slice (some ⟨b, o, none⟩) n c) (.int kd i) = some (.pointer (some ⟨b, o + i.toNat * sz, none⟩)) := by
  simp [idxV, h0, h1, add_eq]
theorem xa_in (len sz b o : Nat) (kd : IntKind) (i : Int) (h0 : 0 ≤ i) (h1 : i < len) : idxAV len sz (.pointer (some ⟨b, o, none⟩)) (.int kd i) = some (.pointer (some ⟨b, o + i.toNat * sz, none⟩)) := by
  simp [idxAV, h0, h1, add_eq]
theorem xs_in (l : List UInt8) (kd : IntKind) (i : Int) (h0 : 0 ≤ i) (h1 : i < l.length) : ixSV (.string (bs l)) (.int kd i) = some (.int .u8 (l[i.toNat]?.getD 0).toNat) := by
  have : i.toNat < l.length := by omega
  simp [ixSV, strAt, h0, bs, this]
theorem tn_add1 (a : Nat) : ((a : Int) + 1).toNat = a + 1 := by omega
theorem tn_sub1 (a : Nat) : ((a : Int) - 1).toNat = a - 1 := by omega
theorem tn_add2 (a : Nat) : ((a : Int) + 2).toNat = a + 2 := by omega
theorem tn_sub2 (a : Nat) : ((a : Int) - 2).toNat = a - 2 := by omega
theorem tn_add3 (a : Nat) : ((a : Int) + 3).toNat = a + 3 := by omega
theorem tn_sub3 (a : Nat) : ((a : Int) - 3).toNat = a - 3 := by omega
theorem tn_add4 (a : Nat) : ((a : Int) + 4).toNat = a + 4 := by omega
theorem tn_sub4 (a : Nat) : ((a : Int) - 4).toNat = a - 4 := by omega
theorem ld_p (a : Addr) : ldV w (.pointer (some a)) = w.cell? a := rfl
theorem ldN_p (n b o : Nat) : ldNV w n (.pointer (some ⟨b, o, none⟩)) = (ldsV w ⟨b, o, none⟩ 0 n).map fun l => .agg l.toArray := rfl
theorem lds_z (a : Addr) (i : Nat) : ldsV w a i 0 = some [] := rfl
theorem lds_s (b o i n : Nat) : ldsV w ⟨b, o, none⟩ i (n + 1) = (w.cell? ⟨b, o + i, none⟩).bind fun v => (ldsV w ⟨b, o, none⟩ (i + 1) n).map (v :: ·) := by
  simp only [ldsV, add_eq]
theorem ldsB {g : Nat} {l : List Value} (hb : blk w g = some l) (o : Nat) : ∀ (n i : Nat), o + i + n ≤ l.length → ldsV w ⟨g, o, none⟩ i n = some ((l.drop (o + i)).take n)
  | 0, i, _ => by simp [ldsV]
  | n + 1, i, h => by
    have hlt : o + i < l.length := by omega
    rw [lds_s, cel hb, List.getElem?_eq_getElem hlt, Option.bind_some, ldsB hb o n (i + 1) (by omega), Option.map_some, List.drop_eq_getElem_cons hlt, List.take_succ_cons]
    simp [Nat.add_assoc]
theorem ldNB {g : Nat} {l : List Value} (hb : blk w g = some l) (n o : Nat) (h : o + n ≤ l.length) : ldNV w n (.pointer (some ⟨g, o, none⟩)) = some (.agg ((l.drop o).take n).toArray) := by
  rw [ldN_p, ldsB hb o n 0 (by omega)]; simp
theorem st_one (b o : Nat) (v : Value) (hv : okCell v = true) : stV w 1 (.pointer (some ⟨b, o, none⟩)) v = (blk w b).bind fun l => if o < l.length then some (put w b (l.set o v)) else none := by
  have hc : cellsV v = [v] := by cases v <;> first | rfl | cases hv
  simp only [stV, hc]
  congr 1
  funext l
  by_cases h : o < l.length
  · have : o + 1 ≤ l.length := h
    simp [h, this, hv, List.set_eq_take_append_cons_drop]
  · have : ¬ (o + 1 ≤ l.length) := h
    simp [h, this]
theorem st_int (b o : Nat) (kd : IntKind) (n : Int) : stV w 1 (.pointer (some ⟨b, o, none⟩)) (.int kd n) = (blk w b).bind fun l => if o < l.length then some (put w b (l.set o (.int kd n))) else none := st_one b o _ rfl
theorem st_bool (b o : Nat) (x : Bool) : stV w 1 (.pointer (some ⟨b, o, none⟩)) (.bool x) = (blk w b).bind fun l => if o < l.length then some (put w b (l.set o (.bool x))) else none := st_one b o _ rfl
theorem st_string (b o : Nat) (x : ByteArray) : stV w 1 (.pointer (some ⟨b, o, none⟩)) (.string x) = (blk w b).bind fun l => if o < l.length then some (put w b (l.set o (.string x))) else none := st_one b o _ rfl
theorem st_ptr (b o : Nat) (x : Option Addr) : stV w 1 (.pointer (some ⟨b, o, none⟩)) (.pointer x) = (blk w b).bind fun l => if o < l.length then some (put w b (l.set o (.pointer x))) else none := st_one b o _ rfl
theorem st_slice (b o : Nat) (x : Option Addr) (n c : Nat) : stV w 1 (.pointer (some ⟨b, o, none⟩)) (.slice x n c) = (blk w b).bind fun l => if o < l.length then some (put w b (l.set o (.slice x n c))) else none := st_one b o _ rfl
theorem st_map (b o : Nat) (x : Option Nat) : stV w 1 (.pointer (some ⟨b, o, none⟩)) (.map x) = (blk w b).bind fun l => if o < l.length then some (put w b (l.set o (.map x))) else none := st_one b o _ rfl
theorem st_func (b o : Nat) (f : Fn) (x y : Array Value) : stV w 1 (.pointer (some ⟨b, o, none⟩)) (.func f x y) = (blk w b).bind fun l => if o < l.length then some (put w b (l.set o (.func f x y))) else none := st_one b o _ rfl
theorem st_nilf (b o : Nat) : stV w 1 (.pointer (some ⟨b, o, none⟩)) .nilFunc = (blk w b).bind fun l => if o < l.length then some (put w b (l.set o .nilFunc)) else none := st_one b o _ rfl
theorem st_agg (n b o : Nat) (cs : List Value) (h1 : cs.length = n) (h2 : cs.all okCell = true) : stV w n (.pointer (some ⟨b, o, none⟩)) (.agg cs.toArray) = (blk w b).bind fun l => if o + n ≤ l.length then some (put w b (l.take o ++ cs ++ l.drop (o + n))) else none := by
  simp [stV, cellsV, h1, h2]
theorem cv_int (kd kd' : IntKind) (n : Int) : cviV kd (.int kd' n) = some (.int kd (kd.wrap n)) := rfl
theorem len_s (l : List UInt8) : lenV true (.string (bs l)) = some (.int .i64 l.length) := by simp [lenV, bs_size]
theorem len_l (a : Option Addr) (n c : Nat) : lenV false (.slice a n c) = some (.int .i64 n) := rfl
theorem css (s : ByteArray) : cssV (.string s) = some (.string s) := rfl
theorem min_i (kd kd' : IntKind) (x y : Int) : min2V (.int kd x) (.int kd' y) = some (.int kd (if y < x then y else x)) := rfl
theorem max_i (kd kd' : IntKind) (x y : Int) : max2V (.int kd x) (.int kd' y) = some (.int kd (if x < y then y else x)) := rfl
theorem u_not (b : Bool) : unV .not (.bool b) = some (.bool !b) := rfl
theorem u_neg (kd : IntKind) (n : Int) : unV .neg (.int kd n) = some (.int kd (kd.wrap (0 - n))) := rfl
theorem eq_pn (b : Option Addr) : eqV 0 (.pointer none) (.pointer b) = some b.isNone := rfl
theorem eq_ps (a : Addr) : eqV 0 (.pointer (some a)) (.pointer none) = some false := rfl
theorem eq_sn (a : Option Addr) (n c n' c' : Nat) : eqV 1 (.slice none n c) (.slice a n' c') = some a.isNone := rfl
theorem eq_ss (a : Addr) (n c n' c' : Nat) : eqV 1 (.slice (some a) n c) (.slice none n' c') = some false := rfl
theorem eq_mn (b : Option Nat) : eqV 2 (.map none) (.map b) = some b.isNone := rfl
theorem eq_ms (a : Nat) : eqV 2 (.map (some a)) (.map none) = some false := rfl
theorem eq_nn : eqV 3 .nilFunc .nilFunc = some true := rfl
theorem eq_fn (f : Fn) (a b : Array Value) : eqV 3 (.func f a b) .nilFunc = some false := rfl
theorem eq_b (a b : Bool) : eqV 4 (.bool a) (.bool b) = some (a == b) := rfl
theorem eqi_nn : eqI .nilIface .nilIface = some true := rfl
theorem eqi_in (t : TypeId) (v : Value) : eqI (.iface t v) .nilIface = some false := rfl
theorem eqi_ni (t : TypeId) (v : Value) : eqI .nilIface (.iface t v) = some false := rfl
theorem cells_agg (cs : List Value) : cellsV (.agg cs.toArray) = cs := rfl
theorem cells_int (kd : IntKind) (n : Int) : cellsV (.int kd n) = [.int kd n] := rfl
theorem cells_bool (b : Bool) : cellsV (.bool b) = [.bool b] := rfl
theorem cells_str (s : ByteArray) : cellsV (.string s) = [.string s] := rfl
theorem cells_ptr (a : Option Addr) : cellsV (.pointer a) = [.pointer a] := rfl
theorem cells_sl (a : Option Addr) (n c : Nat) : cellsV (.slice a n c) = [.slice a n c] := rfl
theorem cells_map (a : Option Nat) : cellsV (.map a) = [.map a] := rfl
theorem cells_fn (f : Fn) (a b : Array Value) : cellsV (.func f a b) = [.func f a b] := rfl
theorem cells_nf : cellsV .nilFunc = [.nilFunc] := rfl
theorem sub_s (l : List UInt8) (lo hi : Option Value) : subSV (.string (bs l)) lo hi = (bndV 0 lo).bind fun a => (bndV l.length hi).bind fun b => subV l a b := by
  simp only [subSV, bs_size, bs_data]
theorem bnd_n (d : Nat) : bndV d none = some (d : Int) := rfl
theorem bnd_s (d : Nat) (kd : IntKind) (i : Int) : bndV d (some (.int kd i)) = some i := rfl
theorem sub_in (l : List UInt8) (lo hi : Int) (h1 : 0 ≤ lo) (h2 : lo ≤ hi) (h3 : hi ≤ l.length) : subV l lo hi = some (.string (bs ((l.drop lo.toNat).take (hi.toNat - lo.toNat)))) := by
  simp [subV, h1, h2, h3]
theorem sub_l (sz : Nat) (a : Option Addr) (n c : Nat) (lo hi : Option Value) : subLV sz (.slice a n c) lo hi = (bndV 0 lo).bind fun x => (bndV n hi).bind fun y => cutV sz a c x y := rfl
theorem sub_a (len sz : Nat) (a : Addr) (lo hi : Option Value) : subAV len sz (.pointer (some a)) lo hi = (bndV 0 lo).bind fun x => (bndV len hi).bind fun y => cutV sz (some a) len x y := rfl
theorem cut_in (sz : Nat) (a : Option Addr) (c : Nat) (lo hi : Int) (h1 : 0 ≤ lo) (h2 : lo ≤ hi) (h3 : hi ≤ c) : cutV sz a c lo hi = some (.slice (if c = lo.toNat then a else a.map (·.add (lo.toNat * sz))) (hi.toNat - lo.toNat) (c - lo.toNat)) := by
  simp [cutV, h1, h2, h3]
theorem mks_in (e : TypeId) (sz bytes : Nat) (z : List Value) (kd kd' : IntKind) (a b : Int) (d : Option Nat) (r : List St) (h0 : 0 ≤ a) (h1 : a ≤ b) (h2 : b ≤ 9223372036854775807) (h3 : bytes * b ≤ 281474976710656) (h4 : z.length = sz ∧ 0 < sz) :
    goMks P e sz bytes z (.int kd a) (.int kd' b) d r Q ρ w = vcL P r Q (upd ρ d (.slice (some ⟨size w, 0, none⟩) a.toNat b.toNat)) (new w ((List.replicate b.toNat z).flatten) e) := by
  simp only [goMks, mksP, h0, h1, h2, h3, h4.1, h4.2, true_and]
theorem ini_c (v : Value) (r : List Value) (i : Nat) : ini (v :: r) i = if i = 0 then v else ini r (i - 1) := rfl
theorem ini_n (i : Nat) : ini [] i = undef := rfl
theorem some_bind {α β : Type} (a : α) (f : α → Option β) : (some a).bind f = f a := rfl
theorem some_map {α β : Type} (a : α) (f : α → β) : (some a).map f = some (f a) := rfl
theorem none_map {α β : Type} (f : α → β) : (none : Option α).map f = none := rfl
theorem bif_t {α : Type} (a b : α) : (if true = true then a else b) = a := rfl
theorem bif_f {α : Type} (a b : α) : (if false = true then a else b) = b := rfl

/-- Ways part. -/
theorem cond_d {p : Prop} [Decidable p] {a b : S} (h1 : p → vcS P a Q ρ w) (h2 : ¬ p → vcS P b Q ρ w) : goC P (.bool (decide p)) a b Q ρ w := by
  by_cases h : p
  · rw [decide_eq_true h]; exact h1 h
  · rw [decide_eq_false h]; exact h2 h
theorem cond_b {c : Bool} {a b : S} (h1 : c = true → vcS P a Q ρ w) (h2 : c = false → vcS P b Q ρ w) : goC P (.bool c) a b Q ρ w := by
  cases c
  · exact h2 rfl
  · exact h1 rfl
theorem grd_d {p : Prop} [Decidable p] {b : Bool} {d : Option Nat} {i : Ins} {r : List St} (h1 : p → goG P (.bool true) b d i r Q ρ w) (h2 : ¬ p → goG P (.bool false) b d i r Q ρ w) : goG P (.bool (decide p)) b d i r Q ρ w := by
  by_cases h : p
  · rw [decide_eq_true h]; exact h1 h
  · rw [decide_eq_false h]; exact h2 h
theorem grd_b {c b : Bool} {d : Option Nat} {i : Ins} {r : List St} (h1 : c = true → goG P (.bool true) b d i r Q ρ w) (h2 : c = false → goG P (.bool false) b d i r Q ρ w) : goG P (.bool c) b d i r Q ρ w := by
  cases c
  · exact h2 rfl
  · exact h1 rfl
theorem call_by {f : Nat} {args : List Value} {R : Value → World → Prop} {d : Option Nat} {r : List St} (h : callP P f args w R) (hk : ∀ v w', R v w' → vcL P r Q (upd ρ d v) w') : goCall P f args d r Q ρ w := callP_mono h hk
end

/-! ### Rules of the library, at one universe -/
theorem if_t0 {α : Type} (a b : α) : (if True then a else b) = a := if_true ..
theorem if_f0 {α : Type} (a b : α) : (if False then a else b) = b := if_false ..
theorem if_tP (a b : Prop) : (if True then a else b) = a := if_true ..
theorem if_fP (a b : Prop) : (if False then a else b) = b := if_false ..
theorem isn_s {α : Type} (a : α) : (some a).isNone = false := rfl
theorem isn_n {α : Type} : (none : Option α).isNone = true := rfl
theorem bne_f (b : Bool) : (b != false) = b := by cases b <;> rfl
theorem bne_t (b : Bool) : (b != true) = !b := by cases b <;> rfl
theorem not_t : (!true) = false := rfl
theorem not_f : (!false) = true := rfl
theorem get_z {α : Type} (a : α) (l : List α) : (a :: l)[0]? = some a := rfl
theorem get_s {α : Type} (a : α) (l : List α) (n : Nat) : (a :: l)[n + 1]? = l[n]? := rfl
theorem set_z {α : Type} (a v : α) (l : List α) : (a :: l).set 0 v = v :: l := rfl
theorem set_s {α : Type} (a v : α) (l : List α) (n : Nat) : (a :: l).set (n + 1) v = a :: l.set n v := rfl
theorem len_c {α : Type} (a : α) (l : List α) : (a :: l).length = l.length + 1 := rfl
theorem len_n {α : Type} : ([] : List α).length = 0 := rfl
theorem app_n {α : Type} (l : List α) : [] ++ l = l := rfl
theorem app_c {α : Type} (a : α) (l m : List α) : (a :: l) ++ m = a :: (l ++ m) := rfl
theorem app_r {α : Type} (l : List α) : l ++ [] = l := List.append_nil l
theorem tk_z {α : Type} (l : List α) : l.take 0 = [] := rfl
theorem tk_s {α : Type} (a : α) (l : List α) (n : Nat) : (a :: l).take (n + 1) = a :: l.take n := rfl
theorem dr_z {α : Type} (l : List α) : l.drop 0 = l := rfl
theorem dr_s {α : Type} (a : α) (l : List α) (n : Nat) : (a :: l).drop (n + 1) = l.drop n := rfl
theorem tk_n {α : Type} (n : Nat) : ([] : List α).take n = [] := by simp
theorem dr_n {α : Type} (n : Nat) : ([] : List α).drop n = [] := by simp
theorem and_t (p : Prop) : (p ∧ True) = p := and_true p
theorem t_and (p : Prop) : (True ∧ p) = p := true_and p
theorem eq_t {α : Type} (a : α) : (a = a) = True := eq_self a
theorem nz_add (n : Nat) : 0 + n = n := Nat.zero_add n
theorem add_z (n : Nat) : n + 0 = n := rfl
theorem mul_o (n : Nat) : n * 1 = n := Nat.mul_one n
theorem tn_cast (n : Nat) : ((n : Int)).toNat = n := Int.toNat_natCast n
theorem inR_c (a b i : Nat) (r : List (Nat × Nat)) : inR ((a, b) :: r) i = if i < a then inR r i else if i ≤ b then true else inR r i := rfl
theorem inR_n (i : Nat) : inR [] i = false := rfl
theorem beq_tr (b : Bool) : (b == true) = b := by cases b <;> rfl
theorem beq_fr (b : Bool) : (b == false) = !b := by cases b <;> rfl
theorem beq_tl (b : Bool) : (true == b) = b := by cases b <;> rfl
theorem beq_fl (b : Bool) : (false == b) = !b := by cases b <;> rfl
theorem dec_t : decide True = true := rfl
theorem dec_f : decide False = false := rfl

/-! ### The rules, in two bundles: of code (they fire from the front), of values -/
abbrev T {p : Prop} (_ : p) : Prop := p
theorem codeR : T @s_skip ∧ T @s_ops ∧ T @s_dops ∧ T @q_drew ∧ T @s_seq ∧ T @s_cond ∧ T @s_blk ∧ T @s_exit ∧ T @s_ret ∧ T @q_then_n ∧ T @q_then_r ∧ T @q_then_e ∧ T @q_blk_n ∧ T @q_blk_r ∧ T @q_blk_e ∧ T @q_ret_r ∧ T @q_ret_n ∧ T @l_nil ∧ T @l_grd ∧ T @i_mov ∧ T @i_pick ∧ T @i_bin ∧ T @i_sft ∧ T @i_eq ∧ T @i_eqi ∧ T @i_un ∧ T @i_load ∧ T @i_loadN ∧ T @i_store ∧ T @i_alloc ∧ T @i_box ∧ T @i_build ∧ T @i_bsl ∧ T @i_nck ∧ T @i_fld ∧ T @i_get1 ∧ T @i_getN ∧ T @i_idx ∧ T @i_idxA ∧ T @i_ixS ∧ T @i_subS ∧ T @i_subL ∧ T @i_subA ∧ T @i_cvi ∧ T @i_cvBS ∧ T @i_cvSS ∧ T @i_mkf ∧ T @i_mks ∧ T @i_mkm ∧ T @i_ext ∧ T @i_len ∧ T @i_min2 ∧ T @i_max2 ∧ T @i_call ∧ T @i_callv ∧ T @i_app ∧ T @i_cpy :=
  ⟨@s_skip, @s_ops, @s_dops, @q_drew, @s_seq, @s_cond, @s_blk, @s_exit, @s_ret, @q_then_n, @q_then_r, @q_then_e, @q_blk_n, @q_blk_r, @q_blk_e, @q_ret_r, @q_ret_n, @l_nil, @l_grd, @i_mov, @i_pick, @i_bin, @i_sft, @i_eq, @i_eqi, @i_un, @i_load, @i_loadN, @i_store, @i_alloc, @i_box, @i_build, @i_bsl, @i_nck, @i_fld, @i_get1, @i_getN, @i_idx, @i_idxA, @i_ixS, @i_subS, @i_subL, @i_subA, @i_cvi, @i_cvBS, @i_cvSS, @i_mkf, @i_mks, @i_mkm, @i_ext, @i_len, @i_min2, @i_max2, @i_call, @i_callv, @i_app, @i_cpy⟩
theorem valR : T @r_nil ∧ T @r_t ∧ T @r_ld ∧ T @r_ldN ∧ T @go_r ∧ T @t_one ∧ T @t_two ∧ T @t_three ∧ T @t_four ∧ T @t_nil ∧ T @c_t ∧ T @c_f ∧ T @g_tt ∧ T @g_ff ∧ T @g_tf ∧ T @g_ft ∧ T @g_u ∧ T @go_o ∧ T @go_w ∧ T @go_b ∧ T @go_pt ∧ T @go_pf ∧ T @go_a ∧ T @go_n ∧ T @a_nil ∧ T @a_cons ∧ T @la_nil ∧ T @la_cons ∧ T @lay_nil ∧ T @lay_cons ∧ T @v_int ∧ T @v_str ∧ T @v_add ∧ T @v_sub ∧ T @v_mul ∧ T @v_eql ∧ T @v_neq ∧ T @v_lss ∧ T @v_leq ∧ T @v_gtr ∧ T @v_geq ∧ T @s_add ∧ T @s_eql ∧ T @s_neq ∧ T @wrap64 ∧ T @wrapU8 ∧ T @decT ∧ T @decF ∧ T @iteT ∧ T @iteF ∧ T @b_b ∧ T @n_ptr ∧ T @n_fn ∧ T @n_if ∧ T @add_eq ∧ T @f_ptr ∧ T @g_one ∧ T @g_n ∧ T @e_one ∧ T @x_in ∧ T @xa_in ∧ T @xs_in ∧ T @tn_add1 ∧ T @tn_sub1 ∧ T @tn_add2 ∧ T @tn_sub2 ∧ T @tn_add3 ∧ T @tn_sub3 ∧ T @tn_add4 ∧ T @tn_sub4 ∧ T @ld_p ∧ T @st_int ∧ T @st_bool ∧ T @st_string ∧ T @st_ptr ∧ T @st_slice ∧ T @st_map ∧ T @st_func ∧ T @st_nilf ∧ T @st_agg ∧ T @cv_int ∧ T @len_s ∧ T @len_l ∧ T @css ∧ T @min_i ∧ T @max_i ∧ T @u_not ∧ T @u_neg ∧ T @eq_pn ∧ T @eq_ps ∧ T @eq_sn ∧ T @eq_ss ∧ T @eq_mn ∧ T @eq_ms ∧ T @eq_nn ∧ T @eq_fn ∧ T @eq_b ∧ T @eqi_nn ∧ T @eqi_in ∧ T @eqi_ni ∧ T @cells_agg ∧ T @cells_int ∧ T @cells_bool ∧ T @cells_str ∧ T @cells_ptr ∧ T @cells_sl ∧ T @cells_map ∧ T @cells_fn ∧ T @cells_nf ∧ T @sub_s ∧ T @bnd_n ∧ T @bnd_s ∧ T @sub_in ∧ T @sub_l ∧ T @sub_a ∧ T @cut_in ∧ T @mks_in ∧ T @ini_c ∧ T @ini_n ∧ T @some_bind ∧ T @some_map ∧ T @none_map ∧ T @bif_t ∧ T @bif_f ∧ T @if_t0 ∧ T @if_f0 ∧ T @if_tP ∧ T @if_fP ∧ T @isn_s ∧ T @isn_n ∧ T @bne_f ∧ T @bne_t ∧ T @not_t ∧ T @not_f ∧ T @get_z ∧ T @get_s ∧ T @set_z ∧ T @set_s ∧ T @len_c ∧ T @len_n ∧ T @app_n ∧ T @app_c ∧ T @app_r ∧ T @tk_z ∧ T @tk_s ∧ T @dr_z ∧ T @dr_s ∧ T @tk_n ∧ T @dr_n ∧ T @and_t ∧ T @t_and ∧ T @eq_t ∧ T @nz_add ∧ T @add_z ∧ T @mul_o ∧ T @tn_cast ∧ T @inR_c ∧ T @beq_tr ∧ T @beq_fr ∧ T @beq_tl ∧ T @beq_fl ∧ T @inR_n ∧ T @dec_t ∧ T @dec_f ∧ T @ev_t ∧ T @ev_v ∧ T @up_at ∧ T @upd_some ∧ T @upd_none ∧ T @pat_at ∧ T @size_put ∧ T @size_new ∧ T @blk_put ∧ T @blk_put_ne ∧ T @blk_new ∧ T @blk_new_ne ∧ T @cel_put ∧ T @cel_put_ne ∧ T @cel_new ∧ T @cel_new_ne :=
  ⟨@r_nil, @r_t, @r_ld, @r_ldN, @go_r, @t_one, @t_two, @t_three, @t_four, @t_nil, @c_t, @c_f, @g_tt, @g_ff, @g_tf, @g_ft, @g_u, @go_o, @go_w, @go_b, @go_pt, @go_pf, @go_a, @go_n, @a_nil, @a_cons, @la_nil, @la_cons, @lay_nil, @lay_cons, @v_int, @v_str, @v_add, @v_sub, @v_mul, @v_eql, @v_neq, @v_lss, @v_leq, @v_gtr, @v_geq, @s_add, @s_eql, @s_neq, @wrap64, @wrapU8, @decT, @decF, @iteT, @iteF, @b_b, @n_ptr, @n_fn, @n_if, @add_eq, @f_ptr, @g_one, @g_n, @e_one, @x_in, @xa_in, @xs_in, @tn_add1, @tn_sub1, @tn_add2, @tn_sub2, @tn_add3, @tn_sub3, @tn_add4, @tn_sub4, @ld_p, @st_int, @st_bool, @st_string, @st_ptr, @st_slice, @st_map, @st_func, @st_nilf, @st_agg, @cv_int, @len_s, @len_l, @css, @min_i, @max_i, @u_not, @u_neg, @eq_pn, @eq_ps, @eq_sn, @eq_ss, @eq_mn, @eq_ms, @eq_nn, @eq_fn, @eq_b, @eqi_nn, @eqi_in, @eqi_ni, @cells_agg, @cells_int, @cells_bool, @cells_str, @cells_ptr, @cells_sl, @cells_map, @cells_fn, @cells_nf, @sub_s, @bnd_n, @bnd_s, @sub_in, @sub_l, @sub_a, @cut_in, @mks_in, @ini_c, @ini_n, @some_bind, @some_map, @none_map, @bif_t, @bif_f, @if_t0, @if_f0, @if_tP, @if_fP, @isn_s, @isn_n, @bne_f, @bne_t, @not_t, @not_f, @get_z, @get_s, @set_z, @set_s, @len_c, @len_n, @app_n, @app_c, @app_r, @tk_z, @tk_s, @dr_z, @dr_s, @tk_n, @dr_n, @and_t, @t_and, @eq_t, @nz_add, @add_z, @mul_o, @tn_cast, @inR_c, @beq_tr, @beq_fr, @beq_tl, @beq_fl, @inR_n, @dec_t, @dec_f, @ev_t, @ev_v, @up_at, @upd_some, @upd_none, @pat_at, @size_put, @size_new, @blk_put, @blk_put_ne, @blk_new, @blk_new_ne, @cel_put, @cel_put_ne, @cel_new, @cel_new_ne⟩
end Go.Proofs.Ytfiknjogkpbgdaa.E
