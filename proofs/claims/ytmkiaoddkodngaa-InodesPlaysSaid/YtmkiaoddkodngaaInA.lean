/- Nodes: a copy of a table. Conditions: as each theorem says. -/
import Derived.Test.YtmkiaoddkodngaaInZ
namespace Go.Proofs.Ytmkiaoddkodngaa
open E Go.Lib
set_option linter.unusedVariables false
set_option linter.unusedSimpArgs false
set_option maxHeartbeats 1000000
set_option maxRecDepth 20000

section
variable {σ σ' : AS} {X : Ce} {R : List Ck} {k : Value → AS → Prop} {t nb sp N : Nat} {V : TV} {p : Nat} {st : List Bk} {ns L : Nl} {d : Nd} {j : Nat}
theorem s_copy (h : Hs σ X (StC p st :: R)) (hk : ∀ p' σ', Hs σ' X (StC p' st :: StC p st :: R) → Chg [] σ σ' → k (pp p') σ') : kCall Try.prog 39 [pp p] σ k := by
  obtain ⟨s, c, x, h1, _⟩ := h.sto
  have hf := h1.few
  have hl := encS_len st h1.ok
  have hb : (encS st).all okCell = true := by
    rw [List.all_eq_true]
    intro v hv
    simp only [encS, List.mem_flatMap, encB, List.mem_cons, List.mem_map] at hv
    obtain ⟨b, _, rfl | ⟨u, _, rfl⟩⟩ := hv <;> rfl
  refine f39 ?_
  (try simp (maxSteps := 1000000) (dsimp := false) (disch := (first | omega | (simp only [okR]; done) | (simp only [sizeR] <;> omega) | fail)) only [↓preR, postR, ↓w_join, Nat.reduceEqDiff, Nat.reduceAdd, Nat.reduceSub, Nat.reduceMul, Int.reduceNeg, Nat.reduceLT, Int.reduceToNat, Nat.reduceLeDiff, Nat.sub_zero, F39, h1.ptr])
  refine f55 ?_
  (try simp (maxSteps := 1000000) (dsimp := false) (disch := (first | omega | (simp only [okR]; done) | (simp only [sizeR] <;> omega) | fail)) only [↓preR, postR, ↓w_join, Nat.reduceEqDiff, Nat.reduceAdd, Nat.reduceSub, Nat.reduceMul, Int.reduceNeg, Nat.reduceLT, Int.reduceToNat, Nat.reduceLeDiff, Nat.sub_zero, F55])
  refine app_by Try.underlying89 (by kernel_rfl : infB Try.prog 97 65 65 = true) (OwnV.made σ [] 0 65 (by simp) (by unfold maxLen; omega)) (m := st.length) (news := encS st) ?_ hb (by omega) (by unfold maxLen; omega) ?_
  · rw [ldsM (by rw [new_ne (by have := σ.lt h1.row; omega)]; exact h1.row) _ 0 (by simp [hl]), List.drop_zero, List.take_append_of_le_length (by omega), List.take_of_length_le (by omega)]
  · intro v' σ' ho hc hg
    simp only [Nat.zero_add, List.nil_append] at ho
    have hc0 : Chg [] σ σ' := (Chg.new (Chg.refl [] σ) _).step hc (fun i hi => by simp [ownL] at hi; omega)
    have hm2 : σ'.m p = σ.m p := hc0.m p (σ.lt h1.ptr) (by simp)
    have hpl := σ.lt h1.ptr
    rcases ho with ⟨rfl, hn, _⟩ | ⟨g, c', y, rfl, hm, _, _, hcap, _⟩
    · have := h1.pos; omega
    · have hgn := hg g (by simp [ownL])
      have hgl : σ.n ≤ g := by
        rcases hgn with h1 | h1
        · simp [ownL] at h1; omega
        · rw [new_n] at h1; omega
      have hlt := σ'.lt hm
      (try simp (maxSteps := 1000000) (dsimp := false) (disch := (first | omega | (simp only [okR]; done) | (simp only [sizeR] <;> omega) | fail)) only [↓preR, postR, ↓w_join, Nat.reduceEqDiff, Nat.reduceAdd, Nat.reduceSub, Nat.reduceMul, Int.reduceNeg, Nat.reduceLT, Int.reduceToNat, Nat.reduceLeDiff, Nat.sub_zero, hm2, h1.ptr])
      have hcf := Chg.new hc0 (.cells [.slice (some ⟨g, 0, none⟩) st.length c', .int .i64 (free st)])
      refine hk σ'.n _ (h.more (F := [σ'.n, g]) hcf ⟨g, c', y, rfl, ⟨?_, ?_, by omega, h1.ok, h1.few, hcap, h1.pos⟩⟩ (fun x hx => ?_)) hcf
      · rw [new_eq_]
      · rw [new_ne (by omega)]; exact hm
      · have := hc0.n
        simp at hx
        rcases hx with rfl | rfl
        · exact this
        · exact hgl
/-- What of a node a copy has. -/
def strip (d : Nd) : Int × Int × Int × Int × Pl := (d.names, d.users, d.kind, d.size, d.parts)
theorem same_at (h : L.map (Option.map strip) = ns.map (Option.map strip)) {j : Nat} {d : Nd} (hj : L[j]? = some (some d)) : ∃ e, ns[j]? = some (some e) ∧ e.parts = d.parts ∧ e.size = d.size ∧ e.names = d.names ∧ e.users = d.users ∧ e.kind = d.kind := by
  have h1 := congrArg (·[j]?) h
  simp only [List.getElem?_map, hj] at h1
  cases hn : ns[j]? with
  | none => rw [hn] at h1; cases h1
  | some o =>
    rw [hn] at h1
    cases o with
    | none => simp at h1
    | some e =>
      simp only [Option.map_some, Option.some.injEq, strip, Prod.mk.injEq] at h1
      exact ⟨e, rfl, h1.2.2.2.2.symm, h1.2.2.2.1.symm, h1.1.symm, h1.2.1.symm, h1.2.2.1.symm⟩
theorem TInv.copy (hi : TInv ns st N) (h : L.map (Option.map strip) = ns.map (Option.map strip)) : TInv L st N := by
  have hl : L.length = ns.length := by have := congrArg List.length h; simpa using this
  refine ⟨fun j d hj => ?_, fun j1 j2 d1 d2 hne h1 h2 => ?_, hi.ok, hi.len, ?_, by rw [hl]; exact hi.cap⟩
  · obtain ⟨e, he, e1, e2, _⟩ := same_at h hj
    rw [← e1, ← e2]; exact hi.nd j e he
  · obtain ⟨e, he, e1, _⟩ := same_at h h1
    obtain ⟨f, hf, f1, _⟩ := same_at h h2
    rw [← e1, ← f1]; exact hi.dis j1 j2 e f hne he hf
  · have e : L.map plen = ns.map plen := by
      have hp : ∀ o : Option Nd, plen o = match o.map strip with | some s => s.2.2.2.2.length | none => 0 := fun o => by cases o <;> rfl
      have : ∀ l : Nl, l.map plen = (l.map (Option.map strip)).map fun o => match o with | some s => s.2.2.2.2.length | none => 0 := fun l => by
        rw [List.map_map]; exact List.map_congr_left fun o _ => hp o
      rw [this, this, h]
    have h2 : free st + (ns.map plen).sum = N := hi.cnt
    show free st + (L.map plen).sum = N
    rw [e]; exact h2
theorem vw_copy (h : L.map (Option.map strip) = ns.map (Option.map strip)) : vwT L st = vwT ns st := by
  apply List.ext_getElem?
  intro j
  rw [vw_get, vw_get]
  have h1 := congrArg (·[j]?) h
  simp only [List.getElem?_map] at h1
  cases hL : L[j]? with
  | none =>
    rw [hL] at h1
    cases hn : ns[j]? with
    | none => rfl
    | some o => rw [hn] at h1; cases h1
  | some o =>
    cases o with
    | none =>
      rw [hL] at h1
      cases hn : ns[j]? with
      | none => rw [hn] at h1; cases h1
      | some o' => cases o' with
        | none => rfl
        | some e => rw [hn] at h1; simp at h1
    | some d =>
      obtain ⟨e, he, e1, e2, e3, e4, e5⟩ := same_at h hL
      rw [he]
      simp only [Option.map_some]
      unfold nvOf
      rw [e1, e2, e3, e4, e5]
theorem mclone_c {r : Nat} {l : List (Int × Value)} (h : Hs σ X (Mp r none l :: R)) (hk : ∀ q σ', Hs σ' X (Mp q none l :: Mp r none l :: R) → k (.map (some q)) σ') : kCall Try.prog 40 [.map (some r)] σ k := by
  refine f40 ?_
  (try simp (maxSteps := 1000000) (dsimp := false) (disch := (first | omega | (simp only [okR]; done) | (simp only [sizeR] <;> omega) | fail)) only [↓preR, postR, ↓w_join, Nat.reduceEqDiff, Nat.reduceAdd, Nat.reduceSub, Nat.reduceMul, Int.reduceNeg, Nat.reduceLT, Int.reduceToNat, Nat.reduceLeDiff, Nat.sub_zero, F40])
  refine mki_by (by kernel_rfl) ?_
  refine cln_by (by kernel_rfl) (by kernel_rfl) h fun q σ1 h1 => ?_
  refine tas_by (by kernel_rfl) ?_
  exact hk q σ1 h1
theorem nd_open {R0 : List Ck} (i : Nat) (h : Hs σ X R0) (hi : R0[i]? = some (NdK (some d))) : Hs σ X (Cel d.q (ndC d) :: Mp d.m none (kvs d.parts) :: R0.eraseIdx i) := by
  obtain ⟨_, _, h2⟩ := (h.front i hi).opened
  exact h2
theorem erase_perm {α : Type} {C : α} : ∀ {l : List α} {i : Nat}, l[i]? = some C → (C :: l.eraseIdx i).Perm l
  | [], i, h => by simp at h
  | a :: l, 0, h => by
    simp only [List.getElem?_cons_zero, Option.some.injEq] at h
    subst h
    exact List.Perm.refl _
  | a :: l, i + 1, h => (List.Perm.swap a C _).trans (List.Perm.cons a (erase_perm (by simpa using h)))
theorem perm3 {α : Type} (A B C : α) (M T : List α) : (M ++ A :: B :: C :: T).Perm (A :: B :: C :: (M ++ T)) :=
  List.perm_middle.trans (List.Perm.cons A (List.perm_middle.trans (List.Perm.cons B List.perm_middle)))
theorem permT {α : Type} (C A B D : α) (M Q : List α) : (C :: A :: B :: D :: (M ++ Q)).Perm (A :: B :: D :: (M ++ C :: Q)) :=
  (List.Perm.swap A C _).trans (List.Perm.cons A ((List.Perm.swap B C _).trans (List.Perm.cons B ((List.Perm.swap D C _).trans (List.Perm.cons D List.perm_middle.symm)))))
theorem nd_shut {R0 Q : List Ck} (i : Nat) (hi : R0[i]? = some (NdK (some d))) (h : Hs σ X (Cel d.q (ndC d) :: Mp d.m none (kvs d.parts) :: (Q ++ R0.eraseIdx i))) : Hs σ X (Q ++ R0) := by
  have h2 : Hs σ X (NdK (some d) :: (Q ++ R0.eraseIdx i)) := Hs.closed (p := fun _ : Unit => True) () trivial h
  refine h2.perm ?_
  exact List.perm_middle.symm.trans (List.Perm.append_left Q (erase_perm hi))
theorem icopy_c (h : Hs σ X (Tb t N V :: R)) (hk : ∀ t' σ', Hs σ' X (Tb t' N V :: Tb t N V :: R) → k (pp t') σ') : kCall Try.prog 24 [pp t] σ k := by
  obtain ⟨nb, sp, st, ns, hi, rfl, h1⟩ := Tb.open h
  have hcap := hi.cap
  refine f24 ?_
  (try simp (maxSteps := 1000000) (dsimp := false) (disch := (first | omega | (simp only [okR]; done) | (simp only [sizeR] <;> omega) | fail)) only [↓preR, postR, ↓w_stop, Nat.reduceEqDiff, Nat.reduceAdd, Nat.reduceSub, Nat.reduceMul, Int.reduceNeg, Nat.reduceLT, Int.reduceToNat, Nat.reduceLeDiff, Nat.sub_zero, F24])
  refine join_now ?_
  (try simp (maxSteps := 1000000) (dsimp := false) (disch := (first | omega | (simp only [okR]; done) | (simp only [sizeR] <;> omega) | fail)) only [↓preR, postR, ↓w_stop, Nat.reduceEqDiff, Nat.reduceAdd, Nat.reduceSub, Nat.reduceMul, Int.reduceNeg, Nat.reduceLT, Int.reduceToNat, Nat.reduceLeDiff, Nat.sub_zero, h1.obj])
  refine join_by fun J hJ => ?_
  have tail : ∀ s c nb' p', Hs s X (Cel c [.slice (some ⟨nb', 0, none⟩) ns.length ns.length, pp p'] :: Cel nb' (List.replicate ns.length (.pointer none)) :: StC p' st :: TL t nb sp st ns R) → J [pp c] s := by
    intro s c nb' p' g1
    refine hJ _ _ ?_
    clear hJ h1 h
    have t1 := g1.drop.drop.drop
    (try simp (maxSteps := 1000000) (dsimp := false) (disch := (first | omega | (simp only [okR]; done) | (simp only [sizeR] <;> omega) | fail)) only [↓preR, postR, ↓w_join, Nat.reduceEqDiff, Nat.reduceAdd, Nat.reduceSub, Nat.reduceMul, Int.reduceNeg, Nat.reduceLT, Int.reduceToNat, Nat.reduceLeDiff, Nat.sub_zero, t1.obj])
    have hz : ∀ m, (List.replicate m (none : Option Nd)).map ndV = List.replicate m (.pointer none) := fun m => by rw [List.map_replicate]; rfl
    have g2 : Hs s X (TL c nb' p' st (List.replicate ns.length none) (TL t nb sp st ns R)) := by
      show Hs s X (Cel c [.slice (some ⟨nb', 0, none⟩) (List.replicate ns.length (none : Option Nd)).length (List.replicate ns.length (none : Option Nd)).length, pp p'] :: Cel nb' ((List.replicate ns.length (none : Option Nd)).map ndV) :: StC p' st :: ((List.replicate ns.length (none : Option Nd)).map NdK ++ TL t nb sp st ns R))
      rw [hz, List.length_replicate]
      have h3 := no_nodes g1 ns.length
      exact h3.perm (perm3 _ _ _ _ _)
    clear g1 t1
    refine loop_inv (fun nn xs s => ∃ (i : Nat) (L : Nl), xs = [.int .i64 (i : Nat)] ∧ i ≤ ns.length ∧ Hs s X (TL c nb' p' st L (TL t nb sp st ns R)) ∧ L.length = ns.length ∧
      (L.take i).map (Option.map strip) = (ns.take i).map (Option.map strip) ∧ (∀ j, i ≤ j → j < ns.length → L[j]? = some none) ∧ nn = ns.length - i) _
      ⟨0, _, rfl, Nat.zero_le _, g2, by simp, by simp, fun j _ hj => by rw [List.getElem?_replicate, if_pos hj], rfl⟩ ?_
    clear g2
    rintro _ _ s1 again ⟨i, L, rfl, hin, g3, hL, hsee, hno, rfl⟩ hag
    have t1 := g3.drop.drop.drop.dropL
    by_cases hlt : i < ns.length
    · have nxt : ∀ s' o, Hs s' X (TL c nb' p' st (L.set i o) (TL t nb sp st ns R)) → (∃ o', ns[i]? = some o' ∧ o.map strip = o'.map strip) → again [.int .i64 ((i : Int) + 1)] s' := by
        rintro s' o g4 ⟨o', ho', hoo⟩
        refine hag _ _ _ ⟨i + 1, L.set i o, by simp, by omega, g4, by rw [List.length_set]; exact hL, ?_, fun j h1 h2 => ?_, rfl⟩ (by omega)
        · rw [List.take_add_one, List.take_add_one, ho', List.getElem?_set_self (by omega), List.take_set, List.set_eq_of_length_le (by rw [List.length_take]; omega), List.map_append, List.map_append, hsee]
          simp [hoo]
        · rw [List.getElem?_set_ne (by omega)]; exact hno j (by omega) h2
      obtain ⟨o, ho⟩ : ∃ o, ns[i]? = some o := ⟨ns[i], List.getElem?_eq_getElem hlt⟩
      have hv : (ns.map ndV)[i]? = some (ndV o) := by rw [List.getElem?_map, ho]; rfl
      cases o with
      | none =>
        have hv : _ = some (Value.pointer none) := hv
        (simp (maxSteps := 1000000) (dsimp := false) (disch := (first | omega | (simp only [okR]; done) | (simp only [sizeR] <;> omega) | fail)) only [↓preR, postR, ↓w_join, Nat.reduceEqDiff, Nat.reduceAdd, Nat.reduceSub, Nat.reduceMul, Int.reduceNeg, Nat.reduceLT, Int.reduceToNat, Nat.reduceLeDiff, Nat.sub_zero, t1.obj, t1.obj1, hv])
        refine nxt _ none ?_ ⟨none, ho, rfl⟩
        rw [set_same (hno i (Nat.le_refl _) hlt)]
        exact g3
      | some d =>
        have hv : _ = some (pp d.q) := hv
        have ix : (TL c nb' p' st L (TL t nb sp st ns R))[3 + L.length + 3 + i]? = some (NdK (some d)) := by
          show (_ :: _ :: _ :: (L.map NdK ++ (_ :: _ :: _ :: (ns.map NdK ++ R))))[3 + L.length + 3 + i]? = _
          rw [show 3 + L.length + 3 + i = (L.length + (i + 1 + 1 + 1)) + 1 + 1 + 1 from by omega, List.getElem?_cons_succ, List.getElem?_cons_succ, List.getElem?_cons_succ, List.getElem?_append_right (by simp), List.length_map, show L.length + (i + 1 + 1 + 1) - L.length = i + 1 + 1 + 1 from by omega, List.getElem?_cons_succ, List.getElem?_cons_succ, List.getElem?_cons_succ, List.getElem?_append_left (by simpa using hlt), List.getElem?_map, ho]
          rfl
        have hd := (nd_open _ g3 ix).obj
        have g5 := (g3.new (cs := [.int .i64 0, .int .i64 0, .int .i64 0, .int .i64 0, .map none])).put (cs' := ndC d)
        have g6 := nd_open (3 + L.length + 3 + i + 1) g5 (by rw [List.getElem?_cons_succ]; exact ix)
        (simp (maxSteps := 1000000) (dsimp := false) (disch := (first | omega | (simp only [okR]; done) | (simp only [sizeR] <;> omega) | fail)) only [↓preR, postR, ↓w_join, Nat.reduceEqDiff, Nat.reduceAdd, Nat.reduceSub, Nat.reduceMul, Int.reduceNeg, Nat.reduceLT, Int.reduceToNat, Nat.reduceLeDiff, Nat.sub_zero, t1.obj, t1.obj1, hv, hd, g6.obj])
        generalize s1.n = y at g6 ⊢
        generalize AS.put _ y _ = s2 at g6 ⊢
        clear g5
        refine mclone_c g6.swap fun m' s3 g7 => ?_
        have g8 := nd_shut (Q := [Cel y (ndC d), Mp m' none (kvs d.parts)]) _ ix (g7.rot2.perm (List.Perm.cons _ ((List.Perm.swap _ _ _).trans (List.Perm.cons _ (List.Perm.swap _ _ _)))))
        have g9 := g8.put (cs' := ndC ⟨y, m', d.names, d.users, d.kind, d.size, d.parts⟩)
        have t2 := g9.drop.drop
        have hlv : (L.map ndV).length = ns.length := by rw [List.length_map, hL]
        (simp (maxSteps := 1000000) (dsimp := false) (disch := (first | omega | (simp only [okR]; done) | (simp only [sizeR] <;> omega) | fail)) only [↓preR, postR, ↓w_join, Nat.reduceEqDiff, Nat.reduceAdd, Nat.reduceSub, Nat.reduceMul, Int.reduceNeg, Nat.reduceLT, Int.reduceToNat, Nat.reduceLeDiff, Nat.sub_zero, g8.obj, t2.obj, t2.obj1, hlv])
        generalize AS.put s3 y _ = s4 at g9 ⊢
        have g10 : Hs s4 X (NdK (some ⟨y, m', d.names, d.users, d.kind, d.size, d.parts⟩) :: TL c nb' p' st L (TL t nb sp st ns R)) := Hs.closed (p := fun _ : Unit => True) () trivial g9
        have g11 := g10.put2 (cs' := (L.map ndV).set i (pp y))
        generalize AS.put s4 nb' _ = s5 at g11 ⊢
        have g12 := g11.instead (3 + i) (by simp; omega)
        refine nxt _ (some ⟨y, m', d.names, d.users, d.kind, d.size, d.parts⟩) ?_ ⟨_, ho, rfl⟩
        rw [show 3 + i = i + 1 + 1 + 1 from by omega, List.set_cons_succ, List.set_cons_succ, List.set_cons_succ, List.set_append_left _ _ (by rw [List.length_map]; omega), ← List.map_set] at g12
        have e1 : (L.map ndV).set i (pp y) = (L.set i (some ⟨y, m', d.names, d.users, d.kind, d.size, d.parts⟩)).map ndV := by rw [List.map_set]; rfl
        rw [e1] at g12
        show Hs s5 X (Cel c [.slice (some ⟨nb', 0, none⟩) (L.set i _).length (L.set i _).length, pp p'] :: _)
        rw [List.length_set]
        exact g12
    · obtain rfl : i = ns.length := by omega
      (simp (maxSteps := 1000000) (dsimp := false) (disch := (first | omega | (simp only [okR]; done) | (simp only [sizeR] <;> omega) | fail)) only [↓preR, postR, ↓w_join, Nat.reduceEqDiff, Nat.reduceAdd, Nat.reduceSub, Nat.reduceMul, Int.reduceNeg, Nat.reduceLT, Int.reduceToNat, Nat.reduceLeDiff, Nat.sub_zero, t1.obj])
      rw [← hL, List.take_length, hL, List.take_length] at hsee
      have g4 := Tb.close' g3 (hi.copy hsee) (vw_copy hsee)
      refine hk _ _ ?_
      have g5 := g4.perm (permT _ _ _ _ _ _)
      exact (Tb.close g5 hi).swap
  clear hJ
  have hns : ((ns.length : Int)).toNat = ns.length := by omega
  have hfl : (List.replicate ns.length [Value.pointer none]).flatten = List.replicate ns.length (Value.pointer none) := by
    rw [nd_vals, List.map_replicate]; rfl
  (simp (maxSteps := 1000000) (dsimp := false) (disch := (first | omega | (simp only [okR]; done) | (simp only [sizeR] <;> omega) | fail)) only [↓preR, postR, ↓w_join, Nat.reduceEqDiff, Nat.reduceAdd, Nat.reduceSub, Nat.reduceMul, Int.reduceNeg, Nat.reduceLT, Int.reduceToNat, Nat.reduceLeDiff, Nat.sub_zero, h1.obj])
  refine alt_i ?_ ?_
  · have g1 := h1.new (cs := (List.replicate ns.length [Value.pointer none]).flatten)
    rw [hns]
    (simp (maxSteps := 1000000) (dsimp := false) (disch := (first | omega | (simp only [okR]; done) | (simp only [sizeR] <;> omega) | fail)) only [↓preR, postR, ↓w_join, Nat.reduceEqDiff, Nat.reduceAdd, Nat.reduceSub, Nat.reduceMul, Int.reduceNeg, Nat.reduceLT, Int.reduceToNat, Nat.reduceLeDiff, Nat.sub_zero, g1.obj1, hns])
    refine s_copy (g1.front 3 rfl) fun p' s1 g2 _ => ?_
    have m1 := g2.celAt 3 rfl
    (simp (maxSteps := 1000000) (dsimp := false) (disch := (first | omega | (simp only [okR]; done) | (simp only [sizeR] <;> omega) | fail)) only [↓preR, postR, ↓w_join, Nat.reduceEqDiff, Nat.reduceAdd, Nat.reduceSub, Nat.reduceMul, Int.reduceNeg, Nat.reduceLT, Int.reduceToNat, Nat.reduceLeDiff, Nat.sub_zero, m1, hns])
    have g3 := g2.new (cs := [.slice (some ⟨σ.n, 0, none⟩) ns.length ns.length, pp p'])
    have g4 := (((((g3.front 2 rfl).front 5 rfl).front 5 rfl).front 4 rfl).front 5 rfl).front 5 rfl
    rw [hfl] at g4
    exact tail _ _ _ _ g4
  · refine s_copy (h1.front 2 rfl) fun p' s1 g2 _ => ?_
    have m1 := g2.celAt 2 rfl
    have g3 := g2.new (cs := (List.replicate ns.length [Value.pointer none]).flatten)
    have m2 := g3.celAt 3 rfl
    (simp (maxSteps := 1000000) (dsimp := false) (disch := (first | omega | (simp only [okR]; done) | (simp only [sizeR] <;> omega) | fail)) only [↓preR, postR, ↓w_join, Nat.reduceEqDiff, Nat.reduceAdd, Nat.reduceSub, Nat.reduceMul, Int.reduceNeg, Nat.reduceLT, Int.reduceToNat, Nat.reduceLeDiff, Nat.sub_zero, m1, m2, hns])
    have g4 := g3.new (cs := [.slice (some ⟨s1.n, 0, none⟩) ns.length ns.length, pp p'])
    have g5 := (((((g4.front 3 rfl).front 5 rfl).front 5 rfl).front 5 rfl).front 5 rfl).front 5 rfl
    rw [hfl] at g5 ⊢
    exact tail _ _ _ _ g5
end
end Go.Proofs.Ytmkiaoddkodngaa
