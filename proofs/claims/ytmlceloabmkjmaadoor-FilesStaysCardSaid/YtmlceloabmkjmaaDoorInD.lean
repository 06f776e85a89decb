/- Nodes: making, names and users, dropping parts. Conditions: as each theorem says. -/
import Derived.Test.YtmlceloabmkjmaaDoorInC
namespace Go.Proofs.YtmlceloabmkjmaaDoor
open E Go.Lib
set_option linter.unusedVariables false
set_option linter.unusedSimpArgs false
set_option maxHeartbeats 1000000
set_option maxRecDepth 20000

section
variable {σ σ' : AS} {X : Ce} {R : List Ck} {k : Value → AS → Prop} {t nb sp n : Nat} {st : List Bk} {ns : Nl} {d : Nd} {vals : List Value} {i : Int} {j : Nat}
theorem no_nodes (h : Hs σ X R) : ∀ n : Nat, Hs σ X ((List.replicate n (none : Option Nd)).map NdK ++ R)
  | 0 => h
  | n + 1 => Hs.closed (p := fun _ : Unit => True) () trivial (no_nodes h n)
theorem nd_vals (n : Nat) : (List.replicate n [Value.pointer none]).flatten = (List.replicate n (none : Option Nd)).map ndV := by
  induction n with
  | zero => rfl
  | succ n ih => rw [List.replicate_succ, List.replicate_succ, List.flatten_cons, List.map_cons, ih]; rfl
theorem inew_c {a b : Int} (h : Hs σ X R) (hb : (a < 1 ∨ 1024 < a ∨ b < 1 ∨ 4096 < b) → k (.tuple #[.pointer none, .int .i64 1]) σ)
    (hk : ∀ t nb sp σ', 1 ≤ a → a ≤ 1024 → 1 ≤ b → b ≤ 4096 → Hs σ' X (TL t nb sp (fresh b.toNat) (List.replicate a.toNat none) R) → k (.tuple #[pp t, .int .i64 0]) σ') :
    kCall Tryd.prog 18 [.int .i64 a, .int .i64 b] σ k := by
  refine f18 ?_
  by_cases h1 : a < 1
  · (try simp (maxSteps := 1000000) (dsimp := false) (disch := (first | omega | (simp only [okR]; done) | (simp only [sizeR] <;> omega) | fail)) only [↓preR, postR, ↓w_join, Nat.reduceEqDiff, Nat.reduceAdd, Nat.reduceSub, Nat.reduceMul, Int.reduceNeg, Nat.reduceLT, Int.reduceToNat, Nat.reduceLeDiff, Nat.sub_zero, F18]); exact hb (.inl h1)
  by_cases h2 : 1024 < a
  · (try simp (maxSteps := 1000000) (dsimp := false) (disch := (first | omega | (simp only [okR]; done) | (simp only [sizeR] <;> omega) | fail)) only [↓preR, postR, ↓w_join, Nat.reduceEqDiff, Nat.reduceAdd, Nat.reduceSub, Nat.reduceMul, Int.reduceNeg, Nat.reduceLT, Int.reduceToNat, Nat.reduceLeDiff, Nat.sub_zero, F18]); exact hb (.inr (.inl h2))
  (try simp (maxSteps := 1000000) (dsimp := false) (disch := (first | omega | (simp only [okR]; done) | (simp only [sizeR] <;> omega) | fail)) only [↓preR, postR, ↓w_join, Nat.reduceEqDiff, Nat.reduceAdd, Nat.reduceSub, Nat.reduceMul, Int.reduceNeg, Nat.reduceLT, Int.reduceToNat, Nat.reduceLeDiff, Nat.sub_zero, F18])
  refine s_new h (fun p σ1 h3 h4 h5 => ?_) (fun hx => ?_)
  · (try simp (maxSteps := 1000000) (dsimp := false) (disch := (first | omega | (simp only [okR]; done) | (simp only [sizeR] <;> omega) | fail)) only [↓preR, postR, ↓w_join, Nat.reduceEqDiff, Nat.reduceAdd, Nat.reduceSub, Nat.reduceMul, Int.reduceNeg, Nat.reduceLT, Int.reduceToNat, Nat.reduceLeDiff, Nat.sub_zero])
    rw [nd_vals]
    have e : (List.replicate a.toNat (none : Option Nd)).length = a.toNat := by simp
    have h6 := ((no_nodes h5.drop a.toNat))
    -- the store comes ahead of the nodes
    have h7 : Hs σ1 X (StC p (fresh b.toNat) :: ((List.replicate a.toNat (none : Option Nd)).map NdK ++ R)) := by
      have h8 := no_nodes h5 a.toNat
      have h9 := h8.front a.toNat (C := StC p (fresh b.toNat)) (by rw [List.getElem?_append_right (by simp)]; simp)
      have e9 : ((List.replicate a.toNat (none : Option Nd)).map NdK ++ StC p (fresh b.toNat) :: R).eraseIdx a.toNat = (List.replicate a.toNat (none : Option Nd)).map NdK ++ R := by
        rw [List.eraseIdx_append_of_length_le (by simp)]
        simp
      rw [e9] at h9
      exact h9
    have h8 := (h7.new (cs := (List.replicate a.toNat (none : Option Nd)).map ndV)).new (cs := [.slice (some ⟨σ1.n, 0, none⟩) a.toNat a.toNat, pp p])
    refine hk _ σ1.n p _ (by omega) (by omega) h3 h4 ?_
    show Hs _ X (Cel _ [.slice (some ⟨σ1.n, 0, none⟩) (List.replicate a.toNat (none : Option Nd)).length (List.replicate a.toNat (none : Option Nd)).length, pp p] :: _)
    rw [e]
    exact h8
  · (try simp (maxSteps := 1000000) (dsimp := false) (disch := (first | omega | (simp only [okR]; done) | (simp only [sizeR] <;> omega) | fail)) only [↓preR, postR, ↓w_join, Nat.reduceEqDiff, Nat.reduceAdd, Nat.reduceSub, Nat.reduceMul, Int.reduceNeg, Nat.reduceLT, Int.reduceToNat, Nat.reduceLeDiff, Nat.sub_zero])
    exact hb (.inr (.inr hx))
theorem make_c {kind : Int} (h : Hs σ X (TL t nb sp st ns R)) (hn : ns.length ≤ 1024) (hb : (kind < 1 ∨ 3 < kind) → k (.tuple #[.int .i64 0, .int .i64 1]) σ)
    (hf : 1 ≤ kind → kind ≤ 3 → (∀ j, j < ns.length → ns[j]? ≠ some none) → k (.tuple #[.int .i64 0, .int .i64 21]) σ)
    (hk : ∀ (j q m : Nat) σ', 1 ≤ kind → kind ≤ 3 → ns[j]? = some none → (∀ i, i < j → ns[i]? ≠ some none) → Hs σ' X (TL t nb sp st (ns.set j (some ⟨q, m, 0, 0, kind, 0, []⟩)) R) → k (.tuple #[.int .i64 ((j : Int) + 1), .int .i64 0]) σ') :
    kCall Tryd.prog 19 [pp t, .int .i64 kind] σ k := by
  refine f19 ?_
  by_cases h1 : kind < 1
  · (try simp (maxSteps := 1000000) (dsimp := false) (disch := (first | omega | (simp only [okR]; done) | (simp only [sizeR] <;> omega) | fail)) only [↓preR, postR, ↓w_join, Nat.reduceEqDiff, Nat.reduceAdd, Nat.reduceSub, Nat.reduceMul, Int.reduceNeg, Nat.reduceLT, Int.reduceToNat, Nat.reduceLeDiff, Nat.sub_zero, F19]); exact hb (.inl h1)
  by_cases h2 : 3 < kind
  · (try simp (maxSteps := 1000000) (dsimp := false) (disch := (first | omega | (simp only [okR]; done) | (simp only [sizeR] <;> omega) | fail)) only [↓preR, postR, ↓w_join, Nat.reduceEqDiff, Nat.reduceAdd, Nat.reduceSub, Nat.reduceMul, Int.reduceNeg, Nat.reduceLT, Int.reduceToNat, Nat.reduceLeDiff, Nat.sub_zero, F19]); exact hb (.inr h2)
  (try simp (maxSteps := 1000000) (dsimp := false) (disch := (first | omega | (simp only [okR]; done) | (simp only [sizeR] <;> omega) | fail)) only [↓preR, postR, ↓w_join, Nat.reduceEqDiff, Nat.reduceAdd, Nat.reduceSub, Nat.reduceMul, Int.reduceNeg, Nat.reduceLT, Int.reduceToNat, Nat.reduceLeDiff, Nat.sub_zero, F19, h.obj])
  refine loop_inv (fun n xs s => ∃ j : Nat, xs = [.int .i64 j] ∧ σ = s ∧ j ≤ ns.length ∧ (∀ i, i < j → ns[i]? ≠ some none) ∧ n = ns.length - j) _ ⟨0, rfl, rfl, by omega, fun i hi => by omega, rfl⟩ ?_
  rintro n _ s again ⟨j, rfl, rfl, hj, hall, rfl⟩ hag
  have hn' : (ns.length : Int) ≤ 1024 := by omega
  by_cases hlt : j < ns.length
  · have hm : (ns.map ndV)[j]? = some (ndV ns[j]) := by rw [List.getElem?_map, List.getElem?_eq_getElem hlt]; rfl
    cases ho : ns[j] with
    | none =>
      rw [ho] at hm
      have hjn : ns[j]? = some none := by rw [List.getElem?_eq_getElem hlt, ho]
      have h3 := (h.newMap (κ := Int)).new (cs := [.int .i64 0, .int .i64 0, .int .i64 kind, .int .i64 0, .map (some σ.n)])
      have h4 := (h3.celAt 3 rfl)
      (try simp (maxSteps := 1000000) (dsimp := false) (disch := (first | omega | (simp only [okR]; done) | (simp only [sizeR] <;> omega) | fail)) only [↓preR, postR, ↓w_join, Nat.reduceEqDiff, Nat.reduceAdd, Nat.reduceSub, Nat.reduceMul, Int.reduceNeg, Nat.reduceLT, Int.reduceToNat, Nat.reduceLeDiff, Nat.sub_zero, h.obj1, hm, ndV, h.obj, h4, ln_map])
      have h5 := h3.putAt 3 (cs' := (ns.map ndV).set j (pp (σ.n + 1))) rfl
      refine hk j (σ.n + 1) σ.n _ (by omega) (by omega) hjn hall (node_close1 hlt ?_)
      have h6 := h5.front (5 + j) (C := NdK none) (by
        rw [show 5 + j = j + 1 + 1 + 1 + 1 + 1 from by omega]
        simp only [List.set_cons_succ, List.set_cons_zero, List.getElem?_cons_succ]
        rw [List.getElem?_append_left (by simpa using hlt), List.getElem?_map, hjn]
        rfl)
      have h7 := h6.drop
      rw [show 5 + j = j + 1 + 1 + 1 + 1 + 1 from by omega] at h7
      simp only [List.set_cons_succ, List.set_cons_zero, List.eraseIdx_cons_succ] at h7
      rw [List.map_set]
      exact h7
    | some x =>
      rw [ho] at hm
      (try simp (maxSteps := 1000000) (dsimp := false) (disch := (first | omega | (simp only [okR]; done) | (simp only [sizeR] <;> omega) | fail)) only [↓preR, postR, ↓w_join, Nat.reduceEqDiff, Nat.reduceAdd, Nat.reduceSub, Nat.reduceMul, Int.reduceNeg, Nat.reduceLT, Int.reduceToNat, Nat.reduceLeDiff, Nat.sub_zero, h.obj1, hm, ndV])
      refine hag _ _ _ ⟨j + 1, by simp, rfl, by omega, fun i hi => ?_, rfl⟩ (by omega)
      by_cases hij : i = j
      · subst hij; rw [List.getElem?_eq_getElem hlt, ho]; simp
      · exact hall i (by omega)
  · (try simp (maxSteps := 1000000) (dsimp := false) (disch := (first | omega | (simp only [okR]; done) | (simp only [sizeR] <;> omega) | fail)) only [↓preR, postR, ↓w_join, Nat.reduceEqDiff, Nat.reduceAdd, Nat.reduceSub, Nat.reduceMul, Int.reduceNeg, Nat.reduceLT, Int.reduceToNat, Nat.reduceLeDiff, Nat.sub_zero])
    exact hf (by omega) (by omega) (fun i hi => hall i (by omega))
theorem tie_c (h : Hs σ X (TL t nb sp st ns R)) (hn : ns.length ≤ 1024) (hb : nodeAt ns i = none → k (.int .i64 23) σ)
    (hm : ∀ d, nodeAt ns i = some d → -1000000 ≤ d.names ∧ d.names ≤ 1000000)
    (hk : ∀ d σ', nodeAt ns i = some d → Hs σ' X (TL t nb sp st (ns.set (i - 1).toNat (some ⟨d.q, d.m, d.names + 1, d.users, d.kind, d.size, d.parts⟩)) R) → k (.int .i64 0) σ') :
    kCall Tryd.prog 20 [pp t, .int .i64 i] σ k := by
  refine f20 ?_
  (try simp (maxSteps := 1000000) (dsimp := false) (disch := (first | omega | (simp only [okR]; done) | (simp only [sizeR] <;> omega) | fail)) only [↓preR, postR, ↓w_join, Nat.reduceEqDiff, Nat.reduceAdd, Nat.reduceSub, Nat.reduceMul, Int.reduceNeg, Nat.reduceLT, Int.reduceToNat, Nat.reduceLeDiff, Nat.sub_zero, F20])
  refine find_c h hn (fun hd => ?_) (fun d hd => ?_)
  · (try simp (maxSteps := 1000000) (dsimp := false) (disch := (first | omega | (simp only [okR]; done) | (simp only [sizeR] <;> omega) | fail)) only [↓preR, postR, ↓w_join, Nat.reduceEqDiff, Nat.reduceAdd, Nat.reduceSub, Nat.reduceMul, Int.reduceNeg, Nat.reduceLT, Int.reduceToNat, Nat.reduceLeDiff, Nat.sub_zero]); exact hb hd
  · have hj := (nodeAt_some hd).2.2
    have h1 := node_open h hj
    have := hm d hd
    (try simp (maxSteps := 1000000) (dsimp := false) (disch := (first | omega | (simp only [okR]; done) | (simp only [sizeR] <;> omega) | fail)) only [↓preR, postR, ↓w_join, Nat.reduceEqDiff, Nat.reduceAdd, Nat.reduceSub, Nat.reduceMul, Int.reduceNeg, Nat.reduceLT, Int.reduceToNat, Nat.reduceLeDiff, Nat.sub_zero, h1.obj])
    exact hk d _ hd (node_close hj rfl h1.put)
theorem hold_c (h : Hs σ X (TL t nb sp st ns R)) (hn : ns.length ≤ 1024) (hb : nodeAt ns i = none → k (.int .i64 23) σ)
    (hm : ∀ d, nodeAt ns i = some d → -1000000 ≤ d.users ∧ d.users ≤ 1000000)
    (hk : ∀ d σ', nodeAt ns i = some d → Hs σ' X (TL t nb sp st (ns.set (i - 1).toNat (some ⟨d.q, d.m, d.names, d.users + 1, d.kind, d.size, d.parts⟩)) R) → k (.int .i64 0) σ') :
    kCall Tryd.prog 41 [pp t, .int .i64 i] σ k := by
  refine f41 ?_
  (try simp (maxSteps := 1000000) (dsimp := false) (disch := (first | omega | (simp only [okR]; done) | (simp only [sizeR] <;> omega) | fail)) only [↓preR, postR, ↓w_join, Nat.reduceEqDiff, Nat.reduceAdd, Nat.reduceSub, Nat.reduceMul, Int.reduceNeg, Nat.reduceLT, Int.reduceToNat, Nat.reduceLeDiff, Nat.sub_zero, F41])
  refine find_c h hn (fun hd => ?_) (fun d hd => ?_)
  · (try simp (maxSteps := 1000000) (dsimp := false) (disch := (first | omega | (simp only [okR]; done) | (simp only [sizeR] <;> omega) | fail)) only [↓preR, postR, ↓w_join, Nat.reduceEqDiff, Nat.reduceAdd, Nat.reduceSub, Nat.reduceMul, Int.reduceNeg, Nat.reduceLT, Int.reduceToNat, Nat.reduceLeDiff, Nat.sub_zero]); exact hb hd
  · have hj := (nodeAt_some hd).2.2
    have h1 := node_open h hj
    have := hm d hd
    (try simp (maxSteps := 1000000) (dsimp := false) (disch := (first | omega | (simp only [okR]; done) | (simp only [sizeR] <;> omega) | fail)) only [↓preR, postR, ↓w_join, Nat.reduceEqDiff, Nat.reduceAdd, Nat.reduceSub, Nat.reduceMul, Int.reduceNeg, Nat.reduceLT, Int.reduceToNat, Nat.reduceLeDiff, Nat.sub_zero, h1.obj])
    exact hk d _ hd (node_close hj rfl h1.put)
theorem free_c (h : Hs σ X (TL t nb sp st ns R)) (hn : ns.length ≤ 1024) (hk : k (.tuple #[.int .i64 (ns.countP (·.isNone)), .int .i64 (free st)]) σ) : kCall Tryd.prog 31 [pp t] σ k := by
  refine f31 ?_
  (try simp (maxSteps := 1000000) (dsimp := false) (disch := (first | omega | (simp only [okR]; done) | (simp only [sizeR] <;> omega) | fail)) only [↓preR, postR, ↓w_join, Nat.reduceEqDiff, Nat.reduceAdd, Nat.reduceSub, Nat.reduceMul, Int.reduceNeg, Nat.reduceLT, Int.reduceToNat, Nat.reduceLeDiff, Nat.sub_zero, F31, h.obj])
  refine loop_inv (fun n xs s => ∃ j : Nat, xs = [.int .i64 ((ns.take j).countP (·.isNone)), .int .i64 j] ∧ σ = s ∧ j ≤ ns.length ∧ n = ns.length - j) _ ⟨0, rfl, rfl, by omega, rfl⟩ ?_
  rintro n _ s again ⟨j, rfl, rfl, hj, rfl⟩ hag
  have hn' : (ns.length : Int) ≤ 1024 := by omega
  have hc : (ns.take j).countP (·.isNone) ≤ j := Nat.le_trans List.countP_le_length (by simp; omega)
  by_cases hlt : j < ns.length
  · have hm : (ns.map ndV)[j]? = some (ndV ns[j]) := by rw [List.getElem?_map, List.getElem?_eq_getElem hlt]; rfl
    have hag2 := fun s' h => hag _ [.int .i64 ((ns.take (j + 1)).countP (·.isNone)), .int .i64 ((j + 1 : Nat) : Int)] s' h (by omega : ns.length - (j + 1) < ns.length - j)
    rw [List.take_succ_eq_append_getElem hlt, List.countP_append] at hag2
    cases ho : ns[j] with
    | none =>
      rw [ho] at hm hag2
      (try simp (maxSteps := 1000000) (dsimp := false) (disch := (first | omega | (simp only [okR]; done) | (simp only [sizeR] <;> omega) | fail)) only [↓preR, postR, ↓w_join, Nat.reduceEqDiff, Nat.reduceAdd, Nat.reduceSub, Nat.reduceMul, Int.reduceNeg, Nat.reduceLT, Int.reduceToNat, Nat.reduceLeDiff, Nat.sub_zero, h.obj1, hm, ndV])
      have := hag2 σ ⟨j + 1, by rw [List.take_succ_eq_append_getElem hlt, List.countP_append, ho], rfl, by omega, rfl⟩
      simpa using this
    | some x =>
      rw [ho] at hm hag2
      (try simp (maxSteps := 1000000) (dsimp := false) (disch := (first | omega | (simp only [okR]; done) | (simp only [sizeR] <;> omega) | fail)) only [↓preR, postR, ↓w_join, Nat.reduceEqDiff, Nat.reduceAdd, Nat.reduceSub, Nat.reduceMul, Int.reduceNeg, Nat.reduceLT, Int.reduceToNat, Nat.reduceLeDiff, Nat.sub_zero, h.obj1, hm, ndV])
      have := hag2 σ ⟨j + 1, by rw [List.take_succ_eq_append_getElem hlt, List.countP_append, ho], rfl, by omega, rfl⟩
      simpa using this
  · obtain rfl : j = ns.length := by omega
    rw [List.take_length]
    (simp (maxSteps := 1000000) (dsimp := false) (disch := (first | omega | (simp only [okR]; done) | (simp only [sizeR] <;> omega) | fail)) only [↓preR, postR, ↓w_join, Nat.reduceEqDiff, Nat.reduceAdd, Nat.reduceSub, Nat.reduceMul, Int.reduceNeg, Nat.reduceLT, Int.reduceToNat, Nat.reduceLeDiff, Nat.sub_zero, h.obj])
    refine s_free (h.front 2 rfl) ?_
    (try simp (maxSteps := 1000000) (dsimp := false) (disch := (first | omega | (simp only [okR]; done) | (simp only [sizeR] <;> omega) | fail)) only [↓preR, postR, ↓w_join, Nat.reduceEqDiff, Nat.reduceAdd, Nat.reduceSub, Nat.reduceMul, Int.reduceNeg, Nat.reduceLT, Int.reduceToNat, Nat.reduceLeDiff, Nat.sub_zero])
    exact hk
theorem idle_c {a b : Int} (hk : ∀ j, k (.bool (decide (a = 0 ∧ b = 0))) (σ.up j)) : kCall Tryd.prog 64 [.agg [.int .i64 a, .int .i64 b].toArray] σ k := by
  refine kCall_wk (f64 ?_)
  (simp (maxSteps := 1000000) (dsimp := false) (disch := (first | omega | (simp only [okR]; done) | (simp only [sizeR] <;> omega) | fail)) only [↓preR, postR, ↓w_join, Nat.reduceEqDiff, Nat.reduceAdd, Nat.reduceSub, Nat.reduceMul, Int.reduceNeg, Nat.reduceLT, Int.reduceToNat, Nat.reduceLeDiff, Nat.sub_zero, F64])
  refine seq_by (P := Tryd.prog) (ks := [.i .i64, .i .i64]) (by kernel_rfl) [.i .i64 a, .i .i64 b] [.i .i64 0, .i .i64 0] rfl rfl ?_
  have e : decide ([L1.i .i64 a, L1.i .i64 b] = [.i .i64 0, .i .i64 0]) = decide (a = 0 ∧ b = 0) := by simp
  rw [e]
  (try simp (maxSteps := 1000000) (dsimp := false) (disch := (first | omega | (simp only [okR]; done) | (simp only [sizeR] <;> omega) | fail)) only [↓preR, postR, ↓w_join, Nat.reduceEqDiff, Nat.reduceAdd, Nat.reduceSub, Nat.reduceMul, Int.reduceNeg, Nat.reduceLT, Int.reduceToNat, Nat.reduceLeDiff, Nat.sub_zero])
  exact gar_end hk (by (repeat (first | exact Gar.refl _ | assumption | refine Gar.new ?_ _ | refine Gar.up ?_ _ | refine Gar.put ?_ (by first | omega | (simp only [sizeR] <;> omega)) _)))

/-! ### Dropping -/
/-- Blocks given back. -/
def gv (st : List Bk) (B : List Int) : List Bk := st.mapIdx fun i b => if ((i : Int) + 1) ∈ B then (false, b.2) else b
theorem gv_len (st : List Bk) (B : List Int) : (gv st B).length = st.length := by simp [gv]
theorem gv_get (st : List Bk) (B : List Int) (i : Nat) (hi : i < st.length) : (gv st B)[i]? = some (if ((i : Int) + 1) ∈ B then (false, st[i].2) else st[i]) := by
  simp [gv, hi]
theorem gv_ok {st : List Bk} (h : Ok64 st) (B : List Int) : Ok64 (gv st B) := by
  intro b hb
  obtain ⟨i, hi, rfl⟩ := List.getElem_of_mem hb
  rw [gv_len] at hi
  have := gv_get st B i hi
  rw [List.getElem?_eq_getElem (by rw [gv_len]; exact hi)] at this
  injection this with this
  rw [this]
  split
  · show st[i].2.length = 64
    exact h _ (List.getElem_mem hi)
  · exact h _ (List.getElem_mem hi)
theorem gv_nil (st : List Bk) : gv st [] = st := by
  apply List.ext_getElem?
  intro i
  by_cases hi : i < st.length
  · rw [gv_get _ _ _ hi, List.getElem?_eq_getElem hi]; simp
  · rw [List.getElem?_eq_none (by rw [gv_len]; omega), List.getElem?_eq_none (by omega)]
theorem gv_congr (st : List Bk) {B C : List Int} (h : ∀ b, b ∈ B ↔ b ∈ C) : gv st B = gv st C := by
  apply List.ext_getElem?
  intro i
  by_cases hi : i < st.length
  · rw [gv_get _ _ _ hi, gv_get _ _ _ hi]; simp [h]
  · rw [List.getElem?_eq_none (by rw [gv_len]; omega), List.getElem?_eq_none (by rw [gv_len]; omega)]
/-- One more block is given back. -/
theorem gv_give {st : List Bk} {B : List Int} {b : Int} (h1 : 1 ≤ b) (h2 : b ≤ st.length) (ht : st[(b - 1).toNat]?.map (·.1) = some true) (hB : b ∉ B) : giveM (gv st B) b = (0, gv st (b :: B)) := by
  have hi : (b - 1).toNat < st.length := by omega
  have hb : (((b - 1).toNat : Nat) : Int) + 1 = b := by omega
  have g := gv_get st B _ hi
  rw [hb, if_neg hB] at g
  have ht' : st[(b - 1).toNat].1 = true := by rw [List.getElem?_eq_getElem hi] at ht; simpa using ht
  have hT : isT (gv st B) b = true := by
    rw [← hb, isT_at _ _ (by rw [gv_len]; exact hi)]
    rw [List.getElem?_eq_getElem (by rw [gv_len]; exact hi)] at g
    injection g with g
    rw [g]; exact ht'
  unfold giveM
  rw [if_pos hT, g]
  simp only [Option.map_some, Option.getD_some, Prod.mk.injEq, true_and]
  apply List.ext_getElem?
  intro i
  rw [List.getElem?_set]
  by_cases hil : i < st.length
  · by_cases he : (b - 1).toNat = i
    · subst he
      rw [if_pos rfl, if_pos (by rw [gv_len]; exact hi), gv_get st (b :: B) _ hil, hb]
      simp
    · rw [if_neg he, gv_get st B _ hil, gv_get st (b :: B) _ hil]
      have : ¬ ((i : Int) + 1 = b) := by omega
      simp [this]
  · rw [List.getElem?_eq_none (by rw [gv_len]; omega), if_neg (by omega), List.getElem?_eq_none (by rw [gv_len]; omega)]
/-- The blocks of parts lie in the store, are taken, and are no part's twice. -/
structure PartsOk (st : List Bk) (l : List (Int × Int)) : Prop where
  inn : ∀ p, p ∈ l → 1 ≤ p.2 ∧ p.2 ≤ st.length ∧ st[(p.2 - 1).toNat]?.map (·.1) = some true
  once : (l.map (·.2)).Nodup
theorem del_kvs (l : List (Int × Int)) (p : Int) : del (kvs l) p = kvs (l.filter fun e => decide (e.1 ≠ p)) := by
  unfold del kvs
  rw [List.filter_map]
  rfl
theorem kvs_keys {l : List (Int × Int)} (h : (kvs l).Pairwise (fun a b => a.1 ≠ b.1)) : l.Pairwise (fun a b => a.1 ≠ b.1) := by
  unfold kvs at h
  rw [List.pairwise_map] at h
  exact h
theorem drop_c {fr : Int} (h : Hs σ X (OPN d t nb sp n vals st R)) (hp : PartsOk st d.parts)
    (hk : ∀ σ', Hs σ' X (OPN ⟨d.q, d.m, d.names, d.users, d.kind, d.size, d.parts.filter fun p => decide (p.1 < fr)⟩ t nb sp n vals (gv st ((d.parts.filter fun p => decide (fr ≤ p.1)).map (·.2))) R) → k undef σ') :
    kCall Tryd.prog 51 [pp t, pp d.q, .int .i64 fr] σ k := by
  refine f51 ?_
  have hkeys := kvs_keys (Mp.keys h.swap)
  (simp (maxSteps := 1000000) (dsimp := false) (disch := (first | omega | (simp only [okR]; done) | (simp only [sizeR] <;> omega) | fail)) only [↓preR, postR, ↓w_join, Nat.reduceEqDiff, Nat.reduceAdd, Nat.reduceSub, Nat.reduceMul, Int.reduceNeg, Nat.reduceLT, Int.reduceToNat, Nat.reduceLeDiff, Nat.sub_zero, F51, h.obj])
  refine rng_by (κ := Int) h.swap Tryd.underlying78 fun σ1 h1 => ?_
  generalize σ.n = it at h1 ⊢
  refine loop_inv (fun m xs s => xs = [] ∧ ∃ vis : List Int, vis.Nodup ∧ (∀ v, v ∈ vis → v ∈ d.parts.map (·.1)) ∧
      Hs s X (Mp d.m (some (it, vis)) (kvs (d.parts.filter fun p => decide (¬ (p.1 ∈ vis ∧ fr ≤ p.1)))) :: Cel d.q (ndC d) :: Cel t [.slice (some ⟨nb, 0, none⟩) n n, pp sp] :: Cel nb vals :: StC sp (gv st ((d.parts.filter fun p => decide (p.1 ∈ vis ∧ fr ≤ p.1)).map (·.2))) :: R) ∧ m = d.parts.length - vis.length) _ ⟨rfl, [], by simp, by simp, ?_, rfl⟩ ?_
  · have e1 : (d.parts.filter fun p => decide (¬ (p.1 ∈ ([] : List Int) ∧ fr ≤ p.1))) = d.parts := List.filter_eq_self.2 (fun _ _ => by simp)
    have e2 : (d.parts.filter fun p => decide (p.1 ∈ ([] : List Int) ∧ fr ≤ p.1)) = [] := List.filter_eq_nil_iff.2 (fun _ _ => by simp)
    rw [e1, e2, List.map_nil, gv_nil]
    exact h1
  rintro m _ s again ⟨rfl, vis, hnd, hvis, h2, rfl⟩ hag
  refine nxt_by (κ := Int) h2 (fun hall => ?_) (fun kk v σ3 hmk hnv h3 => ?_)
  · have hv : ∀ p, p ∈ d.parts → p.1 ∈ vis := by
      intro p hp
      by_cases hx : p.1 ∈ vis
      · exact hx
      · exact hall _ (List.mem_map.2 ⟨p, List.mem_filter.2 ⟨hp, by simp [hx]⟩, rfl⟩)
    have e1 : (d.parts.filter fun p => decide (¬ (p.1 ∈ vis ∧ fr ≤ p.1))) = d.parts.filter fun p => decide (p.1 < fr) := List.filter_congr (fun p hp => by
      have := hv p hp
      simp [this])
    have e2 : (d.parts.filter fun p => decide (p.1 ∈ vis ∧ fr ≤ p.1)) = d.parts.filter fun p => decide (fr ≤ p.1) := List.filter_congr (fun p hp => by
      have := hv p hp
      simp [this])
    rw [e1, e2] at h2
    (try simp (maxSteps := 1000000) (dsimp := false) (disch := (first | omega | (simp only [okR]; done) | (simp only [sizeR] <;> omega) | fail)) only [↓preR, postR, ↓w_join, Nat.reduceEqDiff, Nat.reduceAdd, Nat.reduceSub, Nat.reduceMul, Int.reduceNeg, Nat.reduceLT, Int.reduceToNat, Nat.reduceLeDiff, Nat.sub_zero])
    exact hk s (Mp.over h2).swap
  · obtain ⟨⟨p0, b⟩, hme, heq⟩ := List.mem_map.1 hmk
    simp only [Prod.mk.injEq] at heq
    obtain ⟨rfl, rfl⟩ := heq
    have hmp := (List.mem_filter.1 hme).1
    have hnd' : (p0 :: vis).Nodup := List.nodup_cons.2 ⟨hnv, hnd⟩
    have hvis' : ∀ v, v ∈ p0 :: vis → v ∈ d.parts.map (·.1) := by
      intro v hv
      rcases List.mem_cons.1 hv with rfl | hv
      · exact List.mem_map.2 ⟨_, hmp, rfl⟩
      · exact hvis v hv
    have hlen : (p0 :: vis).length ≤ d.parts.length := by
      have := List.Nodup.length_le_of_subset hnd' hvis'
      simpa using this
    rw [List.length_cons] at hlen
    (simp (maxSteps := 1000000) (dsimp := false) (disch := (first | omega | (simp only [okR]; done) | (simp only [sizeR] <;> omega) | fail)) only [↓preR, postR, ↓w_join, Nat.reduceEqDiff, Nat.reduceAdd, Nat.reduceSub, Nat.reduceMul, Int.reduceNeg, Nat.reduceLT, Int.reduceToNat, Nat.reduceLeDiff, Nat.sub_zero])
    refine ent_by (κ := Int) h3 hmk ?_
    by_cases hge : fr ≤ p0
    · have h4 := un4 h3
      have h5 : Hs σ3 X (StC sp (gv st ((d.parts.filter fun p => decide (p.1 ∈ vis ∧ fr ≤ p.1)).map (·.2))) :: Mp d.m (some (it, p0 :: vis)) (kvs (d.parts.filter fun p => decide (¬ (p.1 ∈ vis ∧ fr ≤ p.1)))) :: Cel d.q (ndC d) :: Cel t [.slice (some ⟨nb, 0, none⟩) n n, pp sp] :: Cel nb vals :: R) := h3.front 4 rfl
      obtain ⟨hb1, hb2, hb3⟩ := hp.inn _ hmp
      have hnotin : b ∉ (d.parts.filter fun p => decide (p.1 ∈ vis ∧ fr ≤ p.1)).map (·.2) := by
        intro hin
        obtain ⟨⟨p1, b1⟩, hp1, heq⟩ := List.mem_map.1 hin
        have heq : b1 = b := heq
        subst heq
        have hx := List.mem_filter.1 hp1
        have hpv : p1 ∈ vis := by have := hx.2; simp at this; exact this.1
        have h6 := hp.once
        rw [List.Nodup, List.pairwise_map, List.pairwise_iff_getElem] at h6
        obtain ⟨u, hu, eu⟩ := List.getElem_of_mem hmp
        obtain ⟨w, hw, ew⟩ := List.getElem_of_mem hx.1
        rcases Nat.lt_trichotomy u w with hlt | rfl | hlt
        · have := h6 u w hu hw hlt; rw [eu, ew] at this; exact this rfl
        · rw [eu] at ew; injection ew with e1 _; rw [← e1] at hpv; exact hnv hpv
        · have := h6 w u hw hu hlt; rw [eu, ew] at this; exact this rfl
      (simp (maxSteps := 1000000) (dsimp := false) (disch := (first | omega | (simp only [okR]; done) | (simp only [sizeR] <;> omega) | fail)) only [↓preR, postR, ↓w_join, Nat.reduceEqDiff, Nat.reduceAdd, Nat.reduceSub, Nat.reduceMul, Int.reduceNeg, Nat.reduceLT, Int.reduceToNat, Nat.reduceLeDiff, Nat.sub_zero, h3.obj2, encK_i])
      refine s_give b h5 fun σ6 h6 => ?_
      rw [gv_give hb1 hb2 hb3 hnotin] at h6
      have h7 := un4 h6
      (simp (maxSteps := 1000000) (dsimp := false) (disch := (first | omega | (simp only [okR]; done) | (simp only [sizeR] <;> omega) | fail)) only [↓preR, postR, ↓w_join, Nat.reduceEqDiff, Nat.reduceAdd, Nat.reduceSub, Nat.reduceMul, Int.reduceNeg, Nat.reduceLT, Int.reduceToNat, Nat.reduceLeDiff, Nat.sub_zero, h7.obj1])
      refine del_by (κ := Int) h7 Tryd.underlying78 Tryd.underlying3 fun σ8 h8 => ?_
      (try simp (maxSteps := 1000000) (dsimp := false) (disch := (first | omega | (simp only [okR]; done) | (simp only [sizeR] <;> omega) | fail)) only [↓preR, postR, ↓w_join, Nat.reduceEqDiff, Nat.reduceAdd, Nat.reduceSub, Nat.reduceMul, Int.reduceNeg, Nat.reduceLT, Int.reduceToNat, Nat.reduceLeDiff, Nat.sub_zero])
      refine hag _ _ _ ⟨rfl, p0 :: vis, hnd', hvis', ?_, rfl⟩ (by simp; omega)
      rw [del_kvs, List.filter_filter] at h8
      have e1 : (d.parts.filter fun a => decide (a.1 ≠ p0) && decide (¬ (a.1 ∈ vis ∧ fr ≤ a.1))) = d.parts.filter fun p => decide (¬ (p.1 ∈ p0 :: vis ∧ fr ≤ p.1)) := List.filter_congr (fun a ha => by
        by_cases ha1 : a.1 = p0
        · simp [ha1, hge]
        · simp [ha1])
      have e2 : gv st (b :: (d.parts.filter fun p => decide (p.1 ∈ vis ∧ fr ≤ p.1)).map (·.2)) = gv st ((d.parts.filter fun p => decide (p.1 ∈ p0 :: vis ∧ fr ≤ p.1)).map (·.2)) := gv_congr st (fun c => by
        simp only [List.mem_cons, List.mem_map, List.mem_filter, decide_eq_true_eq]
        constructor
        · rintro (rfl | ⟨a, ⟨h1, h2, h3⟩, rfl⟩)
          · exact ⟨_, ⟨hmp, .inl rfl, hge⟩, rfl⟩
          · exact ⟨a, ⟨h1, .inr h2, h3⟩, rfl⟩
        · rintro ⟨a, ⟨h1, h2 | h2, h3⟩, rfl⟩
          · left
            rw [List.pairwise_iff_getElem] at hkeys
            obtain ⟨u, hu, eu⟩ := List.getElem_of_mem hmp
            obtain ⟨w, hw, ew⟩ := List.getElem_of_mem h1
            rcases Nat.lt_trichotomy u w with hlt | rfl | hlt
            · have := hkeys u w hu hw hlt; rw [eu, ew] at this; exact absurd h2.symm this
            · rw [eu] at ew; rw [← ew]
            · have := hkeys w u hw hu hlt; rw [eu, ew] at this; exact absurd h2 this
          · exact .inr ⟨a, ⟨h1, h2, h3⟩, rfl⟩)
      rw [e1, e2] at h8
      exact h8
    · (try simp (maxSteps := 1000000) (dsimp := false) (disch := (first | omega | (simp only [okR]; done) | (simp only [sizeR] <;> omega) | fail)) only [↓preR, postR, ↓w_join, Nat.reduceEqDiff, Nat.reduceAdd, Nat.reduceSub, Nat.reduceMul, Int.reduceNeg, Nat.reduceLT, Int.reduceToNat, Nat.reduceLeDiff, Nat.sub_zero, encK_i])
      refine hag _ _ _ ⟨rfl, p0 :: vis, hnd', hvis', ?_, rfl⟩ (by simp; omega)
      have e1 : ∀ a : Int × Int, (a.1 ∈ p0 :: vis ∧ fr ≤ a.1) ↔ (a.1 ∈ vis ∧ fr ≤ a.1) := by
        intro a
        simp only [List.mem_cons]
        constructor
        · rintro ⟨h1 | h1, h2⟩
          · rw [h1] at h2; exact absurd h2 hge
          · exact ⟨h1, h2⟩
        · rintro ⟨h1, h2⟩; exact ⟨.inr h1, h2⟩
      simp only [e1]
      exact h3
end
end Go.Proofs.YtmlceloabmkjmaaDoor
