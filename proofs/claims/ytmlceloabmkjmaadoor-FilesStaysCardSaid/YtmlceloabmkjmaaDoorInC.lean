/- Nodes: their table in memory, what its calls do to it. Conditions: as each theorem says. -/
import Derived.Test.YtmlceloabmkjmaaDoorG1
import Derived.Test.YtmlceloabmkjmaaDoorBlkM
import Derived.Test.YtmlceloabmkjmaaDoorEq
namespace Go.Proofs.YtmlceloabmkjmaaDoor
open E Go.Lib
set_option linter.unusedVariables false
set_option linter.unusedSimpArgs false
set_option maxHeartbeats 1000000
set_option maxRecDepth 20000

/-! ### The store as a thing -/
theorem Sto.loc {σ σ' : AS} {p s c : Nat} {x : List Value} {st : List Bk} (h : Sto σ p s c x st) (hm : ∀ g, g ∈ [p, s] → σ'.m g = σ.m g) : Sto σ' p s c x st :=
  ⟨(hm p (by simp)).trans h.ptr, (hm s (by simp)).trans h.row, h.ne, h.ok, h.few, h.cap, h.pos⟩
def StC (p : Nat) (st : List Bk) : Ck := ⟨fun F X σ => ∃ s c x, F = [p, s] ∧ Sto σ p s c x st, fun ⟨s, c, x, h, h1⟩ _ hm => ⟨s, c, x, h, h1.loc (by rw [← h]; exact hm)⟩, fun {F X σ} ⟨s, c, x, h, h1⟩ g hg => by
  rw [h] at hg
  simp at hg
  rcases hg with rfl | rfl
  · exact σ.lt h1.ptr
  · exact σ.lt h1.row⟩
abbrev pp (q : Nat) : Value := .pointer (some ⟨q, 0, none⟩)
section
variable {σ σ' : AS} {X : Ce} {R : List Ck} {k : Value → AS → Prop} {p : Nat} {st : List Bk}
theorem E.Hs.sto (h : Hs σ X (StC p st :: R)) : ∃ s c x, Sto σ p s c x st ∧ ∀ σ' st', Sto σ' p s c x st' → Chg [p, s] σ σ' → Hs σ' X (StC p st' :: R) := by
  obtain ⟨F, ⟨s, c, x, rfl, h1⟩, hk⟩ := h.turn
  exact ⟨s, c, x, h1, fun σ' st' h2 hc => hk hc ⟨s, c, x, rfl, h2⟩ (fun g hg => .inl hg)⟩
theorem E.Hs.stoOk (h : Hs σ X (StC p st :: R)) : Ok64 st ∧ st.length ≤ 4096 ∧ 0 < st.length := by
  obtain ⟨s, c, x, h1, _⟩ := h.sto
  exact ⟨h1.ok, h1.few, h1.pos⟩
theorem s_take (h : Hs σ X (StC p st :: R)) (hk : ∀ σ', Hs σ' X (StC p (takeM st).2.2 :: R) → k (.tuple #[.int .i64 (takeM st).1, .int .i64 (takeM st).2.1]) σ') : kCall Tryd.prog 63 [pp p] σ k := by
  obtain ⟨s, c, x, h1, h2⟩ := h.sto
  exact take_e h1 rfl fun σ' h3 hc => hk σ' (h2 σ' _ h3 hc)
theorem s_give (b : Int) (h : Hs σ X (StC p st :: R)) (hk : ∀ σ', Hs σ' X (StC p (giveM st b).2 :: R) → k (.int .i64 (giveM st b).1) σ') : kCall Tryd.prog 62 [pp p, .int .i64 b] σ k := by
  obtain ⟨s, c, x, h1, h2⟩ := h.sto
  exact give_e h1 rfl fun σ' h3 hc => hk σ' (h2 σ' _ h3 hc)
theorem s_write (b a : Int) (t : List UInt8) (h : Hs σ X (StC p st :: R)) (hk : ∀ σ', Hs σ' X (StC p (writeM st b a t).2 :: R) → k (.int .i64 (writeM st b a t).1) σ') : kCall Tryd.prog 52 [pp p, .int .i64 b, .int .i64 a, .string (bs t)] σ k := by
  obtain ⟨s, c, x, h1, h2⟩ := h.sto
  exact write_e h1 rfl fun σ' h3 hc => hk σ' (h2 σ' _ h3 hc)
theorem s_read (b a n : Int) (h : Hs σ X (StC p st :: R)) (hk : k (.tuple #[.string (bs (readM st b a n).1), .int .i64 (readM st b a n).2]) σ) : kCall Tryd.prog 44 [pp p, .int .i64 b, .int .i64 a, .int .i64 n] σ k := by
  obtain ⟨s, c, x, h1, h2⟩ := h.sto
  exact read_e h1 rfl hk
theorem s_free (h : Hs σ X (StC p st :: R)) (hk : k (.int .i64 (free st)) σ) : kCall Tryd.prog 46 [pp p] σ k := by
  obtain ⟨s, c, x, h1, h2⟩ := h.sto
  exact free_any h1 hk
theorem s_new {n : Int} (h : Hs σ X R) (hk : ∀ p σ', 1 ≤ n → n ≤ 4096 → Hs σ' X (StC p (fresh n.toNat) :: R) → k (.tuple #[pp p, .int .i64 0]) σ') (hb : n < 1 ∨ 4096 < n → k (.tuple #[.pointer none, .int .i64 1]) σ) : kCall Tryd.prog 35 [.int .i64 n] σ k := by
  by_cases hn : n < 1 ∨ 4096 < n
  · exact new_arg n hn (hb hn)
  · have hx : ((n.toNat : Nat) : Int) = n := by omega
    rw [← hx]
    refine new_some n.toNat (by omega) (by omega) fun σ' p s hp hs hg h1 => ?_
    refine hk p σ' (by omega) (by omega) ?_
    exact h.more (F := [p, s]) hg.chg ⟨s, _, _, rfl, h1⟩ (by simp; omega)
end

/-! ### Nodes -/
structure Nd where
  q : Nat
  m : Nat
  names : Int
  users : Int
  kind : Int
  size : Int
  parts : List (Int × Int)
abbrev ndC (d : Nd) : List Value := [.int .i64 d.names, .int .i64 d.users, .int .i64 d.kind, .int .i64 d.size, .map (some d.m)]
def kvs (l : List (Int × Int)) : List (Int × Value) := l.map fun p => (p.1, .int .i64 p.2)
def ndV : Option Nd → Value
  | some d => pp d.q
  | none => .pointer none
def NdK (o : Option Nd) : Ck := Exs (fun _ : Unit => True) fun _ => match o with | some d => [Cel d.q (ndC d), Mp d.m none (kvs d.parts)] | none => []
abbrev Nl := List (Option Nd)
/-- A table's things. -/
abbrev TL (t nb sp : Nat) (st : List Bk) (ns : Nl) (R : List Ck) : List Ck := Cel t [.slice (some ⟨nb, 0, none⟩) ns.length ns.length, pp sp] :: Cel nb (ns.map ndV) :: StC sp st :: (ns.map NdK ++ R)
/-- A table, one of its nodes taken out. -/
abbrev OPN (d : Nd) (t nb sp n : Nat) (vals : List Value) (st : List Bk) (R : List Ck) : List Ck := Cel d.q (ndC d) :: Mp d.m none (kvs d.parts) :: Cel t [.slice (some ⟨nb, 0, none⟩) n n, pp sp] :: Cel nb vals :: StC sp st :: R
def nodeAt (ns : Nl) (i : Int) : Option Nd := if 1 ≤ i then (ns[(i - 1).toNat]?).join else none
section
variable {σ σ' : AS} {X : Ce} {R : List Ck} {k : Value → AS → Prop} {t nb sp n : Nat} {st : List Bk} {ns : Nl} {d : Nd} {vals : List Value} {i : Int} {j : Nat}
theorem TL_at (R : List Ck) (hj : ns[j]? = some (some d)) : (TL t nb sp st ns R)[3 + j]? = some (NdK (some d)) := by
  have hl : j < ns.length := (List.getElem?_eq_some_iff.1 hj).1
  rw [show 3 + j = j + 1 + 1 + 1 from by omega]
  simp only [List.getElem?_cons_succ]
  rw [List.getElem?_append_left (by simpa using hl), List.getElem?_map, hj]
  rfl
theorem node_open (h : Hs σ X (TL t nb sp st ns R)) (hj : ns[j]? = some (some d)) : Hs σ X (OPN d t nb sp ns.length (ns.map ndV) st ((ns.map NdK ++ R).eraseIdx j)) := by
  have h1 := h.front (3 + j) (TL_at R hj)
  obtain ⟨_, _, h2⟩ := h1.opened
  rw [show 3 + j = j + 1 + 1 + 1 from by omega] at h2
  simp only [List.eraseIdx_cons_succ] at h2
  exact h2
theorem TL_erase (R : List Ck) : (TL t nb sp st ns R).eraseIdx (3 + j) = Cel t [.slice (some ⟨nb, 0, none⟩) ns.length ns.length, pp sp] :: Cel nb (ns.map ndV) :: StC sp st :: (ns.map NdK ++ R).eraseIdx j := by
  rw [show 3 + j = j + 1 + 1 + 1 from by omega]
  simp only [List.eraseIdx_cons_succ]
theorem node_close0 {o : Option Nd} (hl : j < ns.length) (h : Hs σ X (NdK o :: Cel t [.slice (some ⟨nb, 0, none⟩) ns.length ns.length, pp sp] :: Cel nb ((ns.set j o).map ndV) :: StC sp st :: (ns.map NdK ++ R).eraseIdx j)) : Hs σ X (TL t nb sp st (ns.set j o) R) := by
  have e : (NdK o :: Cel t [.slice (some ⟨nb, 0, none⟩) ns.length ns.length, pp sp] :: Cel nb ((ns.set j o).map ndV) :: StC sp st :: (ns.map NdK ++ R).eraseIdx j) = NdK o :: (Cel t [.slice (some ⟨nb, 0, none⟩) ns.length ns.length, pp sp] :: Cel nb ((ns.set j o).map ndV) :: StC sp st :: (ns.map NdK ++ R)).eraseIdx (3 + j) := by
    rw [show 3 + j = j + 1 + 1 + 1 from by omega]
    simp only [List.eraseIdx_cons_succ]
  rw [e] at h
  have h2 := h.unfront (3 + j) (by simp; omega)
  have e2 : (Cel t [.slice (some ⟨nb, 0, none⟩) ns.length ns.length, pp sp] :: Cel nb ((ns.set j o).map ndV) :: StC sp st :: (ns.map NdK ++ R)).set (3 + j) (NdK o) = TL t nb sp st (ns.set j o) R := by
    rw [show 3 + j = j + 1 + 1 + 1 from by omega]
    simp only [List.set_cons_succ, TL, List.length_set]
    rw [List.set_append_left _ _ (by simpa using hl), ← List.map_set]
  rw [e2] at h2
  exact h2
theorem node_close1 {d' : Nd} (hl : j < ns.length) (h : Hs σ X (OPN d' t nb sp ns.length ((ns.set j (some d')).map ndV) st ((ns.map NdK ++ R).eraseIdx j))) : Hs σ X (TL t nb sp st (ns.set j (some d')) R) :=
  node_close0 hl (Hs.closed (p := fun _ : Unit => True) () trivial h)
theorem vals_same {d' : Nd} (hj : ns[j]? = some (some d)) (hq : d'.q = d.q) : (ns.set j (some d')).map ndV = ns.map ndV := by
  have hl : j < ns.length := (List.getElem?_eq_some_iff.1 hj).1
  rw [List.map_set]
  apply List.ext_getElem?
  intro i
  rw [List.getElem?_set]
  split
  · rename_i hi
    subst hi
    rw [List.getElem?_map, hj]
    simp [hl, ndV, hq]
  · rfl
theorem node_close {d' : Nd} (hj : ns[j]? = some (some d)) (hq : d'.q = d.q) (h : Hs σ X (OPN d' t nb sp ns.length (ns.map ndV) st ((ns.map NdK ++ R).eraseIdx j))) : Hs σ X (TL t nb sp st (ns.set j (some d')) R) :=
  node_close1 (List.getElem?_eq_some_iff.1 hj).1 (by rw [vals_same hj hq]; exact h)
theorem node_cell (h : Hs σ X (TL t nb sp st ns R)) (hj : ns[j]? = some (some d)) : σ.m d.q = some (.cells (ndC d)) := (node_open h hj).obj
theorem nodeAt_some (h : nodeAt ns i = some d) : 1 ≤ i ∧ i ≤ ns.length ∧ ns[(i - 1).toNat]? = some (some d) := by
  unfold nodeAt at h
  split at h
  · rename_i h1
    rw [Option.join_eq_some_iff] at h
    have := (List.getElem?_eq_some_iff.1 h).1
    exact ⟨h1, by omega, h⟩
  · cases h
theorem at_c (h : Hs σ X (TL t nb sp st ns R)) (hn : ns.length ≤ 1024) (hk : k (ndV (nodeAt ns i)) σ) : kCall Tryd.prog 39 [pp t, .int .i64 i] σ k := by
  refine f39 ?_
  have hn' : (ns.length : Int) ≤ 1024 := by omega
  unfold nodeAt at hk
  by_cases h1 : i < 1
  · rw [if_neg (by omega)] at hk
    (try simp (maxSteps := 1000000) (dsimp := false) (disch := (first | omega | (simp only [okR]; done) | (simp only [sizeR] <;> omega) | fail)) only [↓preR, postR, ↓w_join, Nat.reduceEqDiff, Nat.reduceAdd, Nat.reduceSub, Nat.reduceMul, Int.reduceNeg, Nat.reduceLT, Int.reduceToNat, Nat.reduceLeDiff, Nat.sub_zero, F39])
    exact hk
  rw [if_pos (by omega)] at hk
  by_cases h2 : (ns.length : Int) < i
  · rw [List.getElem?_eq_none (by omega)] at hk
    (try simp (maxSteps := 1000000) (dsimp := false) (disch := (first | omega | (simp only [okR]; done) | (simp only [sizeR] <;> omega) | fail)) only [↓preR, postR, ↓w_join, Nat.reduceEqDiff, Nat.reduceAdd, Nat.reduceSub, Nat.reduceMul, Int.reduceNeg, Nat.reduceLT, Int.reduceToNat, Nat.reduceLeDiff, Nat.sub_zero, F39, h.obj])
    exact hk
  have hlt : (i - 1).toNat < ns.length := by omega
  have hm : (ns.map ndV)[(i - 1).toNat]? = some (ndV ns[(i - 1).toNat]) := by rw [List.getElem?_map, List.getElem?_eq_getElem hlt]; rfl
  rw [List.getElem?_eq_getElem hlt] at hk
  (try simp (maxSteps := 1000000) (dsimp := false) (disch := (first | omega | (simp only [okR]; done) | (simp only [sizeR] <;> omega) | fail)) only [↓preR, postR, ↓w_join, Nat.reduceEqDiff, Nat.reduceAdd, Nat.reduceSub, Nat.reduceMul, Int.reduceNeg, Nat.reduceLT, Int.reduceToNat, Nat.reduceLeDiff, Nat.sub_zero, F39, h.obj, h.obj1, hm])
  exact hk
theorem find_c (h : Hs σ X (TL t nb sp st ns R)) (hn : ns.length ≤ 1024) (hb : nodeAt ns i = none → k (.tuple #[.pointer none, .int .i64 23]) σ) (hk : ∀ d, nodeAt ns i = some d → k (.tuple #[pp d.q, .int .i64 0]) σ) :
    kCall Tryd.prog 36 [pp t, .int .i64 i] σ k := by
  refine f36 ?_
  (try simp (maxSteps := 1000000) (dsimp := false) (disch := (first | omega | (simp only [okR]; done) | (simp only [sizeR] <;> omega) | fail)) only [↓preR, postR, ↓w_join, Nat.reduceEqDiff, Nat.reduceAdd, Nat.reduceSub, Nat.reduceMul, Int.reduceNeg, Nat.reduceLT, Int.reduceToNat, Nat.reduceLeDiff, Nat.sub_zero, F36])
  refine at_c h hn ?_
  cases hd : nodeAt ns i with
  | none => (try simp (maxSteps := 1000000) (dsimp := false) (disch := (first | omega | (simp only [okR]; done) | (simp only [sizeR] <;> omega) | fail)) only [↓preR, postR, ↓w_join, Nat.reduceEqDiff, Nat.reduceAdd, Nat.reduceSub, Nat.reduceMul, Int.reduceNeg, Nat.reduceLT, Int.reduceToNat, Nat.reduceLeDiff, Nat.sub_zero, ndV]); exact hb hd
  | some d => (try simp (maxSteps := 1000000) (dsimp := false) (disch := (first | omega | (simp only [okR]; done) | (simp only [sizeR] <;> omega) | fail)) only [↓preR, postR, ↓w_join, Nat.reduceEqDiff, Nat.reduceAdd, Nat.reduceSub, Nat.reduceMul, Int.reduceNeg, Nat.reduceLT, Int.reduceToNat, Nat.reduceLeDiff, Nat.sub_zero, ndV]); exact hk d hd
theorem kind_c (h : Hs σ X (TL t nb sp st ns R)) (hn : ns.length ≤ 1024) (hk : k (.int .i64 (((nodeAt ns i).map (·.kind)).getD 0)) σ) : kCall Tryd.prog 22 [pp t, .int .i64 i] σ k := by
  refine f22 ?_
  (try simp (maxSteps := 1000000) (dsimp := false) (disch := (first | omega | (simp only [okR]; done) | (simp only [sizeR] <;> omega) | fail)) only [↓preR, postR, ↓w_join, Nat.reduceEqDiff, Nat.reduceAdd, Nat.reduceSub, Nat.reduceMul, Int.reduceNeg, Nat.reduceLT, Int.reduceToNat, Nat.reduceLeDiff, Nat.sub_zero, F22])
  refine at_c h hn ?_
  cases hd : nodeAt ns i with
  | none => rw [hd] at hk; (try simp (maxSteps := 1000000) (dsimp := false) (disch := (first | omega | (simp only [okR]; done) | (simp only [sizeR] <;> omega) | fail)) only [↓preR, postR, ↓w_join, Nat.reduceEqDiff, Nat.reduceAdd, Nat.reduceSub, Nat.reduceMul, Int.reduceNeg, Nat.reduceLT, Int.reduceToNat, Nat.reduceLeDiff, Nat.sub_zero, ndV]); exact hk
  | some d =>
    rw [hd] at hk
    have hc := node_cell h (nodeAt_some hd).2.2
    (try simp (maxSteps := 1000000) (dsimp := false) (disch := (first | omega | (simp only [okR]; done) | (simp only [sizeR] <;> omega) | fail)) only [↓preR, postR, ↓w_join, Nat.reduceEqDiff, Nat.reduceAdd, Nat.reduceSub, Nat.reduceMul, Int.reduceNeg, Nat.reduceLT, Int.reduceToNat, Nat.reduceLeDiff, Nat.sub_zero, ndV, hc])
    exact hk
theorem size_c (h : Hs σ X (TL t nb sp st ns R)) (hn : ns.length ≤ 1024) (hk : k (.int .i64 (((nodeAt ns i).map (·.size)).getD 0)) σ) : kCall Tryd.prog 26 [pp t, .int .i64 i] σ k := by
  refine f26 ?_
  (try simp (maxSteps := 1000000) (dsimp := false) (disch := (first | omega | (simp only [okR]; done) | (simp only [sizeR] <;> omega) | fail)) only [↓preR, postR, ↓w_join, Nat.reduceEqDiff, Nat.reduceAdd, Nat.reduceSub, Nat.reduceMul, Int.reduceNeg, Nat.reduceLT, Int.reduceToNat, Nat.reduceLeDiff, Nat.sub_zero, F26])
  refine at_c h hn ?_
  cases hd : nodeAt ns i with
  | none => rw [hd] at hk; (try simp (maxSteps := 1000000) (dsimp := false) (disch := (first | omega | (simp only [okR]; done) | (simp only [sizeR] <;> omega) | fail)) only [↓preR, postR, ↓w_join, Nat.reduceEqDiff, Nat.reduceAdd, Nat.reduceSub, Nat.reduceMul, Int.reduceNeg, Nat.reduceLT, Int.reduceToNat, Nat.reduceLeDiff, Nat.sub_zero, ndV]); exact hk
  | some d =>
    rw [hd] at hk
    have hc := node_cell h (nodeAt_some hd).2.2
    (try simp (maxSteps := 1000000) (dsimp := false) (disch := (first | omega | (simp only [okR]; done) | (simp only [sizeR] <;> omega) | fail)) only [↓preR, postR, ↓w_join, Nat.reduceEqDiff, Nat.reduceAdd, Nat.reduceSub, Nat.reduceMul, Int.reduceNeg, Nat.reduceLT, Int.reduceToNat, Nat.reduceLeDiff, Nat.sub_zero, ndV, hc])
    exact hk
theorem links_c (h : Hs σ X (TL t nb sp st ns R)) (hn : ns.length ≤ 1024) (hk : k (.int .i64 (((nodeAt ns i).map (·.names)).getD 0)) σ) : kCall Tryd.prog 72 [pp t, .int .i64 i] σ k := by
  refine f72 ?_
  (try simp (maxSteps := 1000000) (dsimp := false) (disch := (first | omega | (simp only [okR]; done) | (simp only [sizeR] <;> omega) | fail)) only [↓preR, postR, ↓w_join, Nat.reduceEqDiff, Nat.reduceAdd, Nat.reduceSub, Nat.reduceMul, Int.reduceNeg, Nat.reduceLT, Int.reduceToNat, Nat.reduceLeDiff, Nat.sub_zero, F72])
  refine at_c h hn ?_
  cases hd : nodeAt ns i with
  | none => rw [hd] at hk; (try simp (maxSteps := 1000000) (dsimp := false) (disch := (first | omega | (simp only [okR]; done) | (simp only [sizeR] <;> omega) | fail)) only [↓preR, postR, ↓w_join, Nat.reduceEqDiff, Nat.reduceAdd, Nat.reduceSub, Nat.reduceMul, Int.reduceNeg, Nat.reduceLT, Int.reduceToNat, Nat.reduceLeDiff, Nat.sub_zero, ndV]); exact hk
  | some d =>
    rw [hd] at hk
    have hc := node_cell h (nodeAt_some hd).2.2
    (try simp (maxSteps := 1000000) (dsimp := false) (disch := (first | omega | (simp only [okR]; done) | (simp only [sizeR] <;> omega) | fail)) only [↓preR, postR, ↓w_join, Nat.reduceEqDiff, Nat.reduceAdd, Nat.reduceSub, Nat.reduceMul, Int.reduceNeg, Nat.reduceLT, Int.reduceToNat, Nat.reduceLeDiff, Nat.sub_zero, ndV, hc])
    exact hk
theorem un4 {C C2 C3 C4 D : Ck} (h : Hs σ X (D :: C :: C2 :: C3 :: C4 :: R)) : Hs σ X (C :: C2 :: C3 :: C4 :: D :: R) := (((h.front 4 rfl).front 4 rfl).front 4 rfl).front 4 rfl
theorem OPN.sto (h : Hs σ X (OPN d t nb sp n vals st R)) : Hs σ X (StC sp st :: Cel d.q (ndC d) :: Mp d.m none (kvs d.parts) :: Cel t [.slice (some ⟨nb, 0, none⟩) n n, pp sp] :: Cel nb vals :: R) := h.front 4 rfl
theorem kvs_lookup (l : List (Int × Int)) (p : Int) : (kvs l).lookup p = (l.lookup p).map (Value.int .i64 ·) := by
  induction l with
  | nil => rfl
  | cons e l ih =>
    unfold kvs at ih ⊢
    rw [List.map_cons, List.lookup_cons, List.lookup_cons]
    split
    · rfl
    · exact ih
theorem zero_int (w : World) : (zeroValue 3).run Tryd.prog w = .ok (.int .i64 0) w := by kernel_rfl
theorem plk (part : Int) (h : Hs σ X (OPN d t nb sp n vals st R)) (hs : ∀ b, d.parts.lookup part = some b → k (.tuple #[.int .i64 b, .bool true]) σ) (hn : d.parts.lookup part = none → k (.tuple #[.int .i64 0, .bool false]) σ) :
    kGen Tryd.prog (.lk 78 true) [.map (some d.m), .int .i64 part] σ k := by
  refine lk2_by (κ := Int) h.swap Tryd.underlying78 Tryd.underlying3 zero_int ?_
  rw [kvs_lookup]
  cases hl : d.parts.lookup part with
  | none => exact hn hl
  | some b => exact hs b hl
theorem block_c {part : Int} (h : Hs σ X (OPN d t nb sp n vals st R)) (hf : ∀ b, d.parts.lookup part = some b → k (.tuple #[.int .i64 b, .int .i64 0]) σ)
    (hno : ∀ σ', d.parts.lookup part = none → st.findIdx? (fun b => !b.1) = none → Hs σ' X (OPN d t nb sp n vals st R) → k (.tuple #[.int .i64 0, .int .i64 20]) σ')
    (hok : ∀ (i : Nat) σ', d.parts.lookup part = none → st.findIdx? (fun b => !b.1) = some i → Hs σ' X (OPN ⟨d.q, d.m, d.names, d.users, d.kind, d.size, d.parts ++ [(part, (i : Int) + 1)]⟩ t nb sp n vals (st.set i (true, zero64)) R) → k (.tuple #[.int .i64 ((i : Int) + 1), .int .i64 0]) σ') :
    kCall Tryd.prog 53 [pp t, pp d.q, .int .i64 part] σ k := by
  refine f53 ?_
  (simp (maxSteps := 1000000) (dsimp := false) (disch := (first | omega | (simp only [okR]; done) | (simp only [sizeR] <;> omega) | fail)) only [↓preR, postR, ↓w_join, Nat.reduceEqDiff, Nat.reduceAdd, Nat.reduceSub, Nat.reduceMul, Int.reduceNeg, Nat.reduceLT, Int.reduceToNat, Nat.reduceLeDiff, Nat.sub_zero, F53, h.obj])
  refine plk part h (fun b hl => ?_) (fun hl => ?_)
  · (try simp (maxSteps := 1000000) (dsimp := false) (disch := (first | omega | (simp only [okR]; done) | (simp only [sizeR] <;> omega) | fail)) only [↓preR, postR, ↓w_join, Nat.reduceEqDiff, Nat.reduceAdd, Nat.reduceSub, Nat.reduceMul, Int.reduceNeg, Nat.reduceLT, Int.reduceToNat, Nat.reduceLeDiff, Nat.sub_zero]); exact hf b hl
  · (simp (maxSteps := 1000000) (dsimp := false) (disch := (first | omega | (simp only [okR]; done) | (simp only [sizeR] <;> omega) | fail)) only [↓preR, postR, ↓w_join, Nat.reduceEqDiff, Nat.reduceAdd, Nat.reduceSub, Nat.reduceMul, Int.reduceNeg, Nat.reduceLT, Int.reduceToNat, Nat.reduceLeDiff, Nat.sub_zero, h.obj2])
    refine s_take (OPN.sto h) fun σ1 h1 => ?_
    unfold takeM at h1 ⊢
    cases hi : st.findIdx? (fun b => !b.1) with
    | none =>
      rw [hi] at h1
      (try simp (maxSteps := 1000000) (dsimp := false) (disch := (first | omega | (simp only [okR]; done) | (simp only [sizeR] <;> omega) | fail)) only [↓preR, postR, ↓w_join, Nat.reduceEqDiff, Nat.reduceAdd, Nat.reduceSub, Nat.reduceMul, Int.reduceNeg, Nat.reduceLT, Int.reduceToNat, Nat.reduceLeDiff, Nat.sub_zero])
      exact hno σ1 hl hi (un4 h1)
    | some i =>
      rw [hi] at h1
      have h2 := un4 h1
      (simp (maxSteps := 1000000) (dsimp := false) (disch := (first | omega | (simp only [okR]; done) | (simp only [sizeR] <;> omega) | fail)) only [↓preR, postR, ↓w_join, Nat.reduceEqDiff, Nat.reduceAdd, Nat.reduceSub, Nat.reduceMul, Int.reduceNeg, Nat.reduceLT, Int.reduceToNat, Nat.reduceLeDiff, Nat.sub_zero, h2.obj])
      refine mup_by (κ := Int) h2.swap Tryd.underlying78 Tryd.underlying3 fun σ3 h3 => ?_
      (try simp (maxSteps := 1000000) (dsimp := false) (disch := (first | omega | (simp only [okR]; done) | (simp only [sizeR] <;> omega) | fail)) only [↓preR, postR, ↓w_join, Nat.reduceEqDiff, Nat.reduceAdd, Nat.reduceSub, Nat.reduceMul, Int.reduceNeg, Nat.reduceLT, Int.reduceToNat, Nat.reduceLeDiff, Nat.sub_zero])
      refine hok i σ3 hl hi ?_
      have e : ins (kvs d.parts) part (.int .i64 ((i : Int) + 1)) = kvs (d.parts ++ [(part, (i : Int) + 1)]) := by
        unfold ins
        rw [kvs_lookup, hl]
        simp [kvs]
      rw [e] at h3
      exact h3.swap
end
end Go.Proofs.YtmlceloabmkjmaaDoor
