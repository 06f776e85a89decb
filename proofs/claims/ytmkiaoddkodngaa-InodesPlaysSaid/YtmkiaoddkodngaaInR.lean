/- Nodes: the reference's table as a thing, and what its calls make of it. Conditions: as each theorem says. -/
import Derived.Test.YtmkiaoddkodngaaInO
import Derived.Test.YtmkiaoddkodngaaIf
namespace Go.Proofs.Ytmkiaoddkodngaa
open E Go.Lib
set_option linter.unusedVariables false
set_option linter.unusedSimpArgs false
set_option maxHeartbeats 1000000
set_option maxRecDepth 20000

/-! ### Things in a list -/
section
variable {σ : AS} {X : Ce} {R : List Ck} {C : Ck}
def Nul : Ck := Exs (fun _ : Unit => True) fun _ => []
theorem E.Hs.nul (h : Hs σ X R) : Hs σ X (Nul :: R) := Hs.closed (p := fun _ : Unit => True) () trivial h
theorem E.Hs.instead (i : Nat) (h : Hs σ X (C :: R)) (hi : i < R.length) : Hs σ X (R.set i C) := by
  have hx : (C :: R)[i + 1]? = some R[i] := by simp [hi]
  exact (h.front (i + 1) hx).drop.unfront i hi
end
/-! ### Rows of cells, z for each -/
section
variable {α : Type} {f : α → List Value} {z : Nat} {L : List α} {sp : List Value} {a a' : α} {i j : Nat} {v : Value}
def flat (f : α → List Value) (L : List α) (sp : List Value) : List Value := (L.map f).flatten ++ sp
theorem flat_len (hf : ∀ a, (f a).length = z) : (flat f L sp).length = L.length * z + sp.length := by
  unfold flat
  rw [List.length_append]
  congr 1
  induction L with
  | nil => simp
  | cons a L ih => rw [List.map_cons, List.flatten_cons, List.length_append, ih, hf, List.length_cons, Nat.succ_mul, Nat.add_comm]
theorem flat_split (hf : ∀ a, (f a).length = z) (hi : L[i]? = some a) : flat f L sp = (flat f (L.take i) []) ++ f a ++ flat f (L.drop (i + 1)) sp ∧ (flat f (L.take i) []).length = i * z := by
  have hlt := (List.getElem?_eq_some_iff.1 hi).1
  refine ⟨?_, ?_⟩
  · unfold flat
    conv => lhs; rw [← List.take_append_drop i L, List.drop_eq_getElem_cons hlt, (List.getElem?_eq_some_iff.1 hi).2]
    simp
  · rw [flat_len hf, List.length_take, List.length_nil]; rw [Nat.min_eq_left (by omega), Nat.add_zero]
theorem flat_get (hf : ∀ a, (f a).length = z) (hi : L[i]? = some a) (hj : j < z) : (flat f L sp)[i * z + j]? = (f a)[j]? := by
  obtain ⟨h1, h2⟩ := flat_split (sp := sp) hf hi
  rw [h1, List.append_assoc, List.getElem?_append_right (by omega), h2, List.getElem?_append_left (by rw [hf]; omega)]
  congr 1; omega
theorem flat_put (hf : ∀ a, (f a).length = z) (hi : L[i]? = some a) (a' : α) : (flat f L sp).take (i * z) ++ f a' ++ (flat f L sp).drop (i * z + z) = flat f (L.set i a') sp := by
  have hlt := (List.getElem?_eq_some_iff.1 hi).1
  have hi' : (L.set i a')[i]? = some a' := by rw [List.getElem?_set_self hlt]
  obtain ⟨h1, h2⟩ := flat_split (sp := sp) hf hi
  obtain ⟨h3, h4⟩ := flat_split (sp := sp) hf hi'
  rw [h3, h1]
  have e1 : (L.set i a').take i = L.take i := by rw [List.take_set, List.set_eq_of_length_le (by rw [List.length_take]; exact Nat.min_le_left _ _)]
  have e2 : (L.set i a').drop (i + 1) = L.drop (i + 1) := by rw [List.drop_set, if_pos (by omega)]
  rw [e1, e2]
  have e3 : (flat f (L.take i) [] ++ f a ++ flat f (L.drop (i + 1)) sp).take (i * z) = flat f (L.take i) [] := by
    rw [List.append_assoc, List.take_append_of_le_length (by omega), List.take_of_length_le (by omega)]
  have e4 : (flat f (L.take i) [] ++ f a ++ flat f (L.drop (i + 1)) sp).drop (i * z + z) = flat f (L.drop (i + 1)) sp := by
    have : (flat f (L.take i) [] ++ f a).length = i * z + z := by rw [List.length_append, h2, hf]
    rw [← this, List.drop_left]
  rw [e3, e4]
theorem flat_set (hf : ∀ a, (f a).length = z) (hi : L[i]? = some a) (hj : j < z) (ha : f a' = (f a).set j v) : (flat f L sp).set (i * z + j) v = flat f (L.set i a') sp := by
  rw [← flat_put hf hi a', ha]
  obtain ⟨h1, h2⟩ := flat_split (sp := sp) hf hi
  have e3 : (flat f L sp).take (i * z) = flat f (L.take i) [] := by
    rw [h1, List.append_assoc, List.take_append_of_le_length (by omega), List.take_of_length_le (by omega)]
  have e4 : (flat f L sp).drop (i * z + z) = flat f (L.drop (i + 1)) sp := by
    have : (flat f (L.take i) [] ++ f a).length = i * z + z := by rw [List.length_append, h2, hf]
    rw [h1, ← this, List.drop_left]
  rw [e3, e4, h1, List.append_assoc, List.append_assoc, List.set_append_right _ _ (by omega), h2, show i * z + j - i * z = j from by omega, List.set_append_left _ _ (by rw [hf]; omega)]
end
/-! ### The table -/
structure RN where
  kind : Int
  names : Int
  users : Int
  data : List UInt8
  g : Nat
  c : Nat
  has : List Bool
  sp : List Value
def rnC : Option RN → List Value
  | some d => [.int .i64 d.kind, .int .i64 d.names, .int .i64 d.users, .string (bs d.data), .slice (some ⟨d.g, 0, none⟩) 64 d.c]
  | none => [.int .i64 0, .int .i64 0, .int .i64 0, .string (bs []), .slice none 0 0]
theorem rnC_len (o : Option RN) : (rnC o).length = 5 := by cases o <;> rfl
def rnv (d : RN) : NV := ⟨d.kind, d.names, d.users, d.data, d.has⟩
abbrev bl (b : Bool) : Value := .bool b
def RnK : Option RN → Ck
  | some d => Cel d.g (d.has.map bl ++ d.sp)
  | none => Nul
structure ROk (d : RN) : Prop where
  has : d.has.length = 64
  cap : d.c = 64 + d.sp.length
  few : d.c ≤ maxLen
  kind : 1 ≤ d.kind
  data : d.data.length ≤ 4096
structure RfX where
  lb : Nat
  cl : Nat
  sp : List Value
  ns : List (Option RN)
abbrev RL (t N : Nat) (x : RfX) (R : List Ck) : List Ck := Cel t [.slice (some ⟨x.lb, 0, none⟩) (x.ns.length + 1) x.cl, .int .i64 N] :: Cel x.lb (flat rnC (none :: x.ns) x.sp) :: (x.ns.map RnK ++ R)
structure RfOk (x : RfX) (V : TV) : Prop where
  see : x.ns.map (Option.map rnv) = V
  ok : ∀ d, some d ∈ x.ns → ROk d
  cap : x.ns.length ≤ 1024
  cl : x.ns.length + 1 ≤ x.cl
  few : x.cl ≤ maxLen
/-- The reference's table, as one thing. -/
def Rf (t N : Nat) (V : TV) : Ck := Exs (fun x : RfX => RfOk x V) fun x => Cel t [.slice (some ⟨x.lb, 0, none⟩) (x.ns.length + 1) x.cl, .int .i64 N] :: Cel x.lb (flat rnC (none :: x.ns) x.sp) :: x.ns.map RnK
section
variable {σ σ' : AS} {X : Ce} {R : List Ck} {k : Value → AS → Prop} {t N m : Nat} {V V' : TV} {ask i at_ n : Int} {j : Nat} {data s : List UInt8} {d d' : RN} {x : RfX}
theorem Rf.open (h : Hs σ X (Rf t N V :: R)) : ∃ x, RfOk x V ∧ Hs σ X (RL t N x R) := by
  obtain ⟨x, h1, h2⟩ := h.opened
  exact ⟨x, h1, h2⟩
theorem Rf.close (h : Hs σ X (RL t N x R)) (hx : RfOk x V) : Hs σ X (Rf t N V :: R) := Hs.closed (p := fun x : RfX => RfOk x V) x hx h
theorem R_at {o : Option RN} (hx : RfOk x V) (hj : x.ns[j]? = some o) : V[j]? = some (o.map rnv) := by rw [← hx.see, List.getElem?_map, hj]; rfl
theorem RL_get (hj : x.ns[j]? = some (some d)) : (RL t N x R)[2 + j]? = some (Cel d.g (d.has.map bl ++ d.sp)) := by
  have hlt := (List.getElem?_eq_some_iff.1 hj).1
  show (Cel t _ :: Cel x.lb _ :: (x.ns.map RnK ++ R))[2 + j]? = _
  rw [show 2 + j = j + 1 + 1 from by omega, List.getElem?_cons_succ, List.getElem?_cons_succ, List.getElem?_append_left (by simpa using hlt), List.getElem?_map, hj]
  rfl
theorem putV_putV (V : TV) (i : Int) (o o' : Option NV) : putV (putV V i o) i o' = putV V i o' := by unfold putV; rw [List.set_set]
theorem R_len (hx : RfOk x V) : V.length = x.ns.length := by rw [← hx.see, List.length_map]
/-- A node's cells. -/
theorem R_cells (hx : RfOk x V) (h1 : 1 ≤ i) (h2 : i ≤ x.ns.length) : ∃ o, x.ns[(i - 1).toNat]? = some o ∧ atV V i = o.map rnv ∧ (∀ j, j < 5 → (flat rnC (none :: x.ns) x.sp)[i.toNat * 5 + j]? = (rnC o)[j]?) ∧ (∀ d, o = some d → ROk d) := by
  obtain ⟨o, ho⟩ : ∃ o, x.ns[(i - 1).toNat]? = some o := ⟨x.ns[(i - 1).toNat]'(by omega), List.getElem?_eq_getElem (by omega)⟩
  refine ⟨o, ho, ?_, fun j hj => flat_get rnC_len ?_ hj, fun d hd => hx.ok d (by rw [← hd]; exact List.mem_of_getElem? ho)⟩
  · unfold atV
    rw [if_pos h1, R_at hx ho]; rfl
  · rw [show i.toNat = (i - 1).toNat + 1 from by omega, List.getElem?_cons_succ, ho]
theorem ris_c (h : Hs σ X (RL t N x R)) (hx : RfOk x V) (hk : k (.bool (atV V i).isSome) σ) : kCall Try.prog 49 [pp t, .int .i64 i] σ k := by
  refine f49 ?_
  have hcap := hx.cap
  have hcl := hx.cl
  have hfew := hx.few
  unfold maxLen at hfew
  by_cases h1 : 1 ≤ i
  · by_cases h2 : i ≤ x.ns.length
    · obtain ⟨o, ho, hv, hc, hok⟩ := R_cells hx h1 h2
      have c0 := hc 0 (by decide)
      rw [Nat.add_zero] at c0
      rw [hv] at hk
      cases o with
      | none =>
        have c0 : _ = some (Value.int .i64 0) := c0
        (try simp (maxSteps := 1000000) (dsimp := false) (disch := (first | omega | (simp only [okR]; done) | (simp only [sizeR] <;> omega) | fail)) only [↓preR, postR, ↓w_join, Nat.reduceEqDiff, Nat.reduceAdd, Nat.reduceSub, Nat.reduceMul, Int.reduceNeg, Nat.reduceLT, Int.reduceToNat, Nat.reduceLeDiff, Nat.sub_zero, F49, h.obj, h.obj1, c0])
        exact hk
      | some d =>
        have c0 : _ = some (Value.int .i64 d.kind) := c0
        have := (hok d rfl).kind
        (try simp (maxSteps := 1000000) (dsimp := false) (disch := (first | omega | (simp only [okR]; done) | (simp only [sizeR] <;> omega) | fail)) only [↓preR, postR, ↓w_join, Nat.reduceEqDiff, Nat.reduceAdd, Nat.reduceSub, Nat.reduceMul, Int.reduceNeg, Nat.reduceLT, Int.reduceToNat, Nat.reduceLeDiff, Nat.sub_zero, F49, h.obj, h.obj1, c0])
        exact hk
    · have : atV V i = none := by
        unfold atV
        rw [if_pos h1, List.getElem?_eq_none (by rw [R_len hx]; omega)]; rfl
      rw [this] at hk
      (try simp (maxSteps := 1000000) (dsimp := false) (disch := (first | omega | (simp only [okR]; done) | (simp only [sizeR] <;> omega) | fail)) only [↓preR, postR, ↓w_join, Nat.reduceEqDiff, Nat.reduceAdd, Nat.reduceSub, Nat.reduceMul, Int.reduceNeg, Nat.reduceLT, Int.reduceToNat, Nat.reduceLeDiff, Nat.sub_zero, F49, h.obj])
      exact hk
  · have : atV V i = none := by unfold atV; rw [if_neg h1]
    rw [this] at hk
    (try simp (maxSteps := 1000000) (dsimp := false) (disch := (first | omega | (simp only [okR]; done) | (simp only [sizeR] <;> omega) | fail)) only [↓preR, postR, ↓w_join, Nat.reduceEqDiff, Nat.reduceAdd, Nat.reduceSub, Nat.reduceMul, Int.reduceNeg, Nat.reduceLT, Int.reduceToNat, Nat.reduceLeDiff, Nat.sub_zero, F49])
    exact hk
theorem atV_rng (hx : RfOk x V) {v : NV} (hv : atV V i = some v) : 1 ≤ i ∧ i ≤ x.ns.length := by
  obtain ⟨h1, h2⟩ := atV_get hv
  have := (List.getElem?_eq_some_iff.1 h2).1
  rw [R_len hx] at this
  omega
/-- A node that there is. -/
theorem R_node (hx : RfOk x V) {v : NV} (hv : atV V i = some v) : ∃ d, x.ns[(i - 1).toNat]? = some (some d) ∧ v = rnv d ∧ ROk d ∧ 1 ≤ i ∧ i ≤ x.ns.length ∧
    (flat rnC (none :: x.ns) x.sp)[i.toNat * 5]? = some (.int .i64 d.kind) ∧ (flat rnC (none :: x.ns) x.sp)[i.toNat * 5 + 1]? = some (.int .i64 d.names) ∧ (flat rnC (none :: x.ns) x.sp)[i.toNat * 5 + 2]? = some (.int .i64 d.users) ∧
    (flat rnC (none :: x.ns) x.sp)[i.toNat * 5 + 3]? = some (.string (bs d.data)) ∧ (flat rnC (none :: x.ns) x.sp)[i.toNat * 5 + 4]? = some (.slice (some ⟨d.g, 0, none⟩) 64 d.c) := by
  obtain ⟨h1, h2⟩ := atV_rng hx hv
  obtain ⟨o, ho, hv', hc, hok⟩ := R_cells hx h1 h2
  rw [hv] at hv'
  cases o with
  | none => cases hv'
  | some d => exact ⟨d, ho, Option.some.inj hv', hok d rfl, h1, h2, hc 0 (by decide), hc 1 (by decide), hc 2 (by decide), hc 3 (by decide), hc 4 (by decide)⟩
theorem flat_lenR (x : RfX) : (flat rnC (none :: x.ns) x.sp).length = (x.ns.length + 1) * 5 + x.sp.length := by rw [flat_len rnC_len]; rfl
theorem rget_c (h : Hs σ X (RL t N x R)) (hx : RfOk x V) (hk : ∀ σ' w, Hs σ' X (RL t N x R) → (∀ v, atV V i = some v → ∃ a b, w = .agg [.int .i64 v.kind, .int .i64 v.names, .int .i64 v.users, .string (bs v.data), .slice a 64 b].toArray) →
      (atV V i = none → w = .agg [.int .i64 0, .int .i64 0, .int .i64 0, .string (bs []), .slice none 0 0].toArray) → k w σ') : kCall Try.prog 28 [pp t, .int .i64 i] σ k := by
  refine f28 ?_
  have hcap := hx.cap
  have hcl := hx.cl
  have hfew := hx.few
  unfold maxLen at hfew
  have h1 := h.new (cs := [.int .i64 0, .int .i64 0, .int .i64 0, .string (bs []), .slice none 0 0])
  (simp (maxSteps := 1000000) (dsimp := false) (disch := (first | omega | (simp only [okR]; done) | (simp only [sizeR] <;> omega) | fail)) only [↓preR, postR, ↓w_join, Nat.reduceEqDiff, Nat.reduceAdd, Nat.reduceSub, Nat.reduceMul, Int.reduceNeg, Nat.reduceLT, Int.reduceToNat, Nat.reduceLeDiff, Nat.sub_zero, F28])
  refine ris_c h1.drop hx ?_
  cases hv : atV V i with
  | none =>
    (simp (maxSteps := 1000000) (dsimp := false) (disch := (first | omega | (simp only [okR]; done) | (simp only [sizeR] <;> omega) | fail)) only [↓preR, postR, ↓w_join, Nat.reduceEqDiff, Nat.reduceAdd, Nat.reduceSub, Nat.reduceMul, Int.reduceNeg, Nat.reduceLT, Int.reduceToNat, Nat.reduceLeDiff, Nat.sub_zero, Option.isSome_none])
    refine hk _ _ (h1.put (cs' := [.int .i64 0, .int .i64 0, .int .i64 0, .string (bs []), .slice none 0 0])).drop (fun v hv' => by rw [hv] at hv'; cases hv') (fun _ => rfl)
  | some v =>
    obtain ⟨d, ho, rfl, hok, i1, i2, c0, c1, c2, c3, c4⟩ := R_node hx hv
    (simp (maxSteps := 1000000) (dsimp := false) (disch := (first | omega | (simp only [okR]; done) | (simp only [sizeR] <;> omega) | fail)) only [↓preR, postR, ↓w_join, Nat.reduceEqDiff, Nat.reduceAdd, Nat.reduceSub, Nat.reduceMul, Int.reduceNeg, Nat.reduceLT, Int.reduceToNat, Nat.reduceLeDiff, Nat.sub_zero, Option.isSome_some, h1.obj1, h1.obj2, c0, c1, c2, c3, c4, flat_lenR])
    refine hk _ _ (h1.put (cs' := [.int .i64 d.kind, .int .i64 d.names, .int .i64 d.users, .string (bs d.data), .slice (some ⟨d.g, 0, none⟩) 64 d.c])).drop (fun v hv' => ?_) (fun hv' => by rw [hv] at hv'; cases hv')
    rw [hv] at hv'
    obtain rfl := Option.some.inj hv'
    exact ⟨_, _, rfl⟩
theorem R_things (R : List Ck) (ns : List (Option RN)) (q : Nat) (o : Option RN) (hq : q < ns.length) : (ns.map RnK ++ R).set q (RnK o) = (ns.set q o).map RnK ++ R := by
  rw [List.set_append_left _ _ (by simpa using hq), List.map_set]
theorem R_same (ns : List (Option RN)) (q : Nat) (ho : ns[q]? = some (some d)) (hg : d'.g = d.g) (hh : d'.has = d.has) (hs : d'.sp = d.sp) : (ns.set q (some d')).map RnK = ns.map RnK := by
  have e : RnK (some d') = RnK (some d) := by
    show Cel d'.g (d'.has.map bl ++ d'.sp) = Cel d.g (d.has.map bl ++ d.sp)
    rw [hg, hh, hs]
  rw [List.map_set, e]
  exact set_same (by rw [List.getElem?_map, ho]; rfl)
abbrev xset (x : RfX) (q : Nat) (o : Option RN) : RfX := ⟨x.lb, x.cl, x.sp, x.ns.set q o⟩
theorem RfOk.set (hx : RfOk x V) (q : Nat) (o : Option RN) (hok : ∀ d, o = some d → ROk d) : RfOk (xset x q o) (V.set q (o.map rnv)) := by
  refine ⟨by rw [← hx.see, List.map_set], fun d hd => ?_, by rw [List.length_set]; exact hx.cap, by rw [List.length_set]; exact hx.cl, hx.few⟩
  rcases List.mem_or_eq_of_mem_set hd with h | h
  · exact hx.ok d h
  · exact hok d h.symm
theorem RL_set {q : Nat} {o : Option RN} (h : Hs σ X (Cel t [.slice (some ⟨x.lb, 0, none⟩) (x.ns.length + 1) x.cl, .int .i64 N] :: Cel x.lb (flat rnC (none :: x.ns.set q o) x.sp) :: ((x.ns.set q o).map RnK ++ R))) : Hs σ X (RL t N (xset x q o) R) := by
  show Hs σ X (Cel t [.slice (some ⟨x.lb, 0, none⟩) ((x.ns.set q o).length + 1) x.cl, .int .i64 N] :: _)
  rw [List.length_set]
  exact h
theorem R_cell {o : Option RN} {v : Value} {jj : Nat} (ho : x.ns[(i - 1).toNat]? = some o) (i1 : 1 ≤ i) (hj : jj < 5) (o' : Option RN) (ha : rnC o' = (rnC o).set jj v) : (flat rnC (none :: x.ns) x.sp).set (i.toNat * 5 + jj) v = flat rnC (none :: x.ns.set (i - 1).toNat o') x.sp := by
  have e : i.toNat = (i - 1).toNat + 1 := by omega
  rw [flat_set rnC_len (a := o) (a' := o') (by rw [e, List.getElem?_cons_succ, ho]) hj ha, e, List.set_cons_succ]
theorem R_row {o : Option RN} (ho : x.ns[(i - 1).toNat]? = some o) (i1 : 1 ≤ i) (o' : Option RN) : (flat rnC (none :: x.ns) x.sp).take (i.toNat * 5) ++ rnC o' ++ (flat rnC (none :: x.ns) x.sp).drop (i.toNat * 5 + 5) = flat rnC (none :: x.ns.set (i - 1).toNat o') x.sp := by
  have e : i.toNat = (i - 1).toNat + 1 := by omega
  rw [flat_put rnC_len (a := o) (by rw [e, List.getElem?_cons_succ, ho]), e, List.set_cons_succ]
/-- One cell of a node turns that is not its row. -/
theorem RL_cell {v : Value} {jj : Nat} (h : Hs σ X (RL t N x R)) (ho : x.ns[(i - 1).toNat]? = some (some d)) (i1 : 1 ≤ i) (hj : jj < 5) (hg : d'.g = d.g) (hh : d'.has = d.has) (hs : d'.sp = d.sp) (ha : rnC (some d') = (rnC (some d)).set jj v) :
    Hs (σ.put x.lb (.cells ((flat rnC (none :: x.ns) x.sp).set (i.toNat * 5 + jj) v))) X (RL t N (xset x (i - 1).toNat (some d')) R) := by
  have h2 := h.put1 (cs' := (flat rnC (none :: x.ns) x.sp).set (i.toNat * 5 + jj) v)
  generalize AS.put σ x.lb _ = s at h2 ⊢
  rw [R_cell ho i1 hj (some d') ha] at h2
  refine RL_set ?_
  rw [R_same x.ns _ ho hg hh hs]
  exact h2
/-- A node goes. -/
theorem RL_gone (h : Hs σ X (RL t N x R)) {o : Option RN} (ho : x.ns[(i - 1).toNat]? = some o) (i1 : 1 ≤ i) :
    Hs (σ.put x.lb (.cells ((flat rnC (none :: x.ns) x.sp).take (i.toNat * 5) ++ rnC none ++ (flat rnC (none :: x.ns) x.sp).drop (i.toNat * 5 + 5)))) X (RL t N (xset x (i - 1).toNat none) R) := by
  have h2 := h.put1 (cs' := (flat rnC (none :: x.ns) x.sp).take (i.toNat * 5) ++ rnC none ++ (flat rnC (none :: x.ns) x.sp).drop (i.toNat * 5 + 5))
  generalize AS.put σ x.lb _ = s at h2 ⊢
  rw [R_row ho i1 none] at h2
  have hq := (List.getElem?_eq_some_iff.1 ho).1
  refine RL_set ?_
  have h3 := h2.nul.instead (2 + (i - 1).toNat) (by simp; omega)
  rw [show 2 + (i - 1).toNat = (i - 1).toNat + 1 + 1 from by omega, List.set_cons_succ, List.set_cons_succ] at h3
  have e := R_things R x.ns (i - 1).toNat none hq
  rw [← e]
  exact h3
theorem rleft_c (h : Hs σ X (RL t N x R)) (hx : RfOk x V) (ho : x.ns[(i - 1).toNat]? = some (some d)) (i1 : 1 ≤ i)
    (hk : ∀ σ' x', RfOk x' (putV V i (if d.names = 0 ∧ d.users = 0 then none else some (rnv d))) → Hs σ' X (RL t N x' R) → k undef σ') : kCall Try.prog 57 [pp t, .int .i64 i] σ k := by
  refine f57 ?_
  have hcap := hx.cap
  have hcl := hx.cl
  have hfew := hx.few
  unfold maxLen at hfew
  have hq := (List.getElem?_eq_some_iff.1 ho).1
  have hv : atV V i = some (rnv d) := by unfold atV; rw [if_pos i1, R_at hx ho]; rfl
  obtain ⟨d0, ho', hd0, hok, _, i2, c0, c1, c2, c3, c4⟩ := R_node hx hv
  have hd1 := Option.some.inj (Option.some.inj (ho.symm.trans ho'))
  subst hd1
  by_cases hc : d.names = 0 ∧ d.users = 0
  · rw [if_pos hc] at hk
    have n0 := hc.1
    have u0 := hc.2
    rw [n0] at c1
    rw [u0] at c2
    (simp (maxSteps := 1000000) (dsimp := false) (disch := (first | omega | (simp only [okR]; done) | (simp only [sizeR] <;> omega) | fail)) only [↓preR, postR, ↓w_join, Nat.reduceEqDiff, Nat.reduceAdd, Nat.reduceSub, Nat.reduceMul, Int.reduceNeg, Nat.reduceLT, Int.reduceToNat, Nat.reduceLeDiff, Nat.sub_zero, F57, h.obj, h.obj1, c1, c2, flat_lenR])
    exact hk _ _ (hx.set _ none (fun d hd => by cases hd)) (RL_gone h ho i1)
  · rw [if_neg hc] at hk
    have hsame : RfOk x (putV V i (some (rnv d))) := by
      have : putV V i (some (rnv d)) = V := set_same (R_at hx ho)
      rw [this]; exact hx
    by_cases n0 : d.names = 0
    · have u0 : ¬ d.users = 0 := fun hu => hc ⟨n0, hu⟩
      (simp (maxSteps := 1000000) (dsimp := false) (disch := (first | omega | (simp only [okR]; done) | (simp only [sizeR] <;> omega) | fail)) only [↓preR, postR, ↓w_join, Nat.reduceEqDiff, Nat.reduceAdd, Nat.reduceSub, Nat.reduceMul, Int.reduceNeg, Nat.reduceLT, Int.reduceToNat, Nat.reduceLeDiff, Nat.sub_zero, F57, h.obj, h.obj1, c1, c2])
      exact hk _ _ hsame h
    · (simp (maxSteps := 1000000) (dsimp := false) (disch := (first | omega | (simp only [okR]; done) | (simp only [sizeR] <;> omega) | fail)) only [↓preR, postR, ↓w_join, Nat.reduceEqDiff, Nat.reduceAdd, Nat.reduceSub, Nat.reduceMul, Int.reduceNeg, Nat.reduceLT, Int.reduceToNat, Nat.reduceLeDiff, Nat.sub_zero, F57, h.obj, h.obj1, c1, c2])
      exact hk _ _ hsame h
end
end Go.Proofs.Ytmkiaoddkodngaa
