/- Nodes: a copy of the reference's table. Conditions: as each theorem says. -/
import Derived.Test.YtmkiaoddkodngaaInY
import Derived.Test.YtmkiaoddkodngaaRow
namespace Go.Proofs.Ytmkiaoddkodngaa
open E Go.Lib
set_option linter.unusedVariables false
set_option linter.unusedSimpArgs false
set_option maxHeartbeats 1000000
set_option maxRecDepth 20000

section
variable {σ σ' : AS} {X : Ce} {R : List Ck} {k : Value → AS → Prop} {t N m : Nat} {V V' : TV} {ask i at_ n : Int} {j : Nat} {data s : List UInt8} {d d' : RN} {x : RfX}
theorem perm1 {α : Type} (A C : α) (L Q : List α) : (C :: A :: (L ++ Q)).Perm (A :: ((L ++ [C]) ++ Q)) := by
  refine (List.Perm.swap A C _).trans (List.Perm.cons A ?_)
  rw [List.append_assoc]
  exact List.perm_middle.symm
theorem permK {α β : Type} (K : α → β) (o : α) (A : β) (L : List α) (Q : List β) : (K o :: A :: (L.map K ++ Q)).Perm (A :: ((L ++ [o]).map K ++ Q)) := by
  rw [List.map_append]
  exact perm1 _ _ _ _
theorem permR {α : Type} (C A B : α) (M Q : List α) : (C :: A :: B :: (M ++ Q)).Perm (A :: B :: (M ++ C :: Q)) :=
  (List.Perm.swap A C _).trans (List.Perm.cons A ((List.Perm.swap B C _).trans (List.Perm.cons B List.perm_middle.symm)))
theorem rcopy_c (h : Hs σ X (Rf t N V :: R)) (hk : ∀ t' σ', Hs σ' X (Rf t' N V :: Rf t N V :: R) → k (pp t') σ') : kCall Try.prog 25 [pp t] σ k := by
  obtain ⟨x, hx, h1⟩ := Rf.open h
  have hcap := hx.cap
  have hcl := hx.cl
  have hfew := hx.few
  unfold maxLen at hfew
  refine f25 ?_
  (try simp (maxSteps := 1000000) (dsimp := false) (disch := (first | omega | (simp only [okR]; done) | (simp only [sizeR] <;> omega) | fail)) only [↓preR, postR, ↓w_join, Nat.reduceEqDiff, Nat.reduceAdd, Nat.reduceSub, Nat.reduceMul, Int.reduceNeg, Nat.reduceLT, Int.reduceToNat, Nat.reduceLeDiff, Nat.sub_zero, F25])
  refine loop_inv (fun nn xs s => ∃ (l : Value) (L : List (Option RN)), xs = [l, .int .i64 (L.length : Nat)] ∧ L.length ≤ x.ns.length + 1 ∧ Hs s X (Raw 5 l L.length (L.map rnC).flatten :: (L.map RnK ++ RL t N x R)) ∧
      L.map (Option.map rnv) = ((none :: x.ns).take L.length).map (Option.map rnv) ∧ (∀ d, some d ∈ L → ROk d) ∧ nn = x.ns.length + 1 - L.length) _ ⟨_, [], rfl, by simp, h1.raw0 5, by simp, by simp, rfl⟩ ?_
  clear h h1
  rintro _ _ s1 again ⟨l, L, rfl, hL, h2, hsee, hok, rfl⟩ hag
  have g := h2.drop.dropL
  by_cases hlt : L.length < x.ns.length + 1
  · obtain ⟨o, ho⟩ : ∃ o, (none :: x.ns)[L.length]? = some o := ⟨(none :: x.ns)[L.length]'(by simpa using hlt), List.getElem?_eq_getElem _⟩
    have c0 := flat_get (f := rnC) (sp := x.sp) (j := 0) rnC_len ho (by decide)
    have c1 := flat_get (f := rnC) (sp := x.sp) (j := 1) rnC_len ho (by decide)
    have c2 := flat_get (f := rnC) (sp := x.sp) (j := 2) rnC_len ho (by decide)
    have c3 := flat_get (f := rnC) (sp := x.sp) (j := 3) rnC_len ho (by decide)
    have c4 := flat_get (f := rnC) (sp := x.sp) (j := 4) rnC_len ho (by decide)
    rw [Nat.add_zero] at c0
    have nxt : ∀ s' l' o', Hs s' X (Raw 5 l' (L.length + 1) ((L.map rnC).flatten ++ rnC o') :: ((L ++ [o']).map RnK ++ RL t N x R)) → o'.map rnv = o.map rnv → (∀ d, o' = some d → ROk d) → again [l', .int .i64 ((L.length : Int) + 1)] s' := by
      intro s' l' o' g1 g2 g3
      refine hag _ _ _ ⟨l', L ++ [o'], by simp, by simp; omega, ?_, ?_, fun d hd => ?_, rfl⟩ (by simp; omega)
      · have e : ((L ++ [o']).map rnC).flatten = (L.map rnC).flatten ++ rnC o' := by simp
        rw [e, List.length_append]
        exact g1
      · rw [List.length_append, List.length_singleton, List.take_add_one, ho, List.map_append, List.map_append, hsee]
        simp [g2]
      · rcases List.mem_append.1 hd with h | h
        · exact hok d h
        · simp at h; exact g3 d h.symm
    clear hag
    cases o with
    | none =>
      have c0 : _ = some (Value.int .i64 0) := c0
      have c1 : _ = some (Value.int .i64 0) := c1
      have c2 : _ = some (Value.int .i64 0) := c2
      have c3 : _ = some (Value.string (bs [])) := c3
      have c4 : _ = some (Value.slice none 0 0) := c4
      (simp (maxSteps := 1000000) (dsimp := false) (disch := (first | omega | (simp only [okR]; done) | (simp only [sizeR] <;> omega) | fail)) only [↓preR, postR, ↓w_join, Nat.reduceEqDiff, Nat.reduceAdd, Nat.reduceSub, Nat.reduceMul, Int.reduceNeg, Nat.reduceLT, Int.reduceToNat, Nat.reduceLeDiff, Nat.sub_zero, g.obj, g.obj1, c0, c1, c2, c3, c4, flat_lenR])
      have h3 := (h2.new (cs := [.int .i64 0, .int .i64 0, .int .i64 0, .string (bs []), .slice none 0 0])).put (cs' := [.int .i64 0, .int .i64 0, .int .i64 0, .string (bs []), .slice none 0 0])
      refine app0_by (e := 4) (sz := 1) (bytes := 1) (by kernel_rfl) (by kernel_rfl) (OwnV.nil _ _) ?_
      generalize s1.n = xb at h3 ⊢
      generalize AS.put _ xb _ = s2 at h3 ⊢
      have h4 := h3.put (cs' := [.int .i64 0, .int .i64 0, .int .i64 0, .string (bs []), .slice none 0 0])
      (simp (maxSteps := 1000000) (dsimp := false) (disch := (first | omega | (simp only [okR]; done) | (simp only [sizeR] <;> omega) | fail)) only [↓preR, postR, ↓w_join, Nat.reduceEqDiff, Nat.reduceAdd, Nat.reduceSub, Nat.reduceMul, Int.reduceNeg, Nat.reduceLT, Int.reduceToNat, Nat.reduceLeDiff, Nat.sub_zero, h3.obj])
      have hn3 : (AS.put s2 xb (.cells [.int .i64 0, .int .i64 0, .int .i64 0, .string (bs []), .slice none 0 0])).n = s2.n := rfl
      rw [← hn3]
      generalize AS.put s2 xb _ = s3 at h4 ⊢
      have h5 := (h4.drop.new (cs := [.int .i64 0, .int .i64 0, .int .i64 0, .string (bs []), .slice none 0 0])).swap
      have hm : (s3.new (.cells [.int .i64 0, .int .i64 0, .int .i64 0, .string (bs []), .slice none 0 0])).m s3.n = some (.cells [.int .i64 0, .int .i64 0, .int .i64 0, .string (bs []), .slice none 0 0]) := new_eq_
      refine rapp_by (m := 1) (news := [.int .i64 0, .int .i64 0, .int .i64 0, .string (bs []), .slice none 0 0]) h5 (e := 57) (bytes := 64) (by kernel_rfl) (by kernel_rfl) (by rw [ldsM hm 5 0 (by simp)]; rfl) (by decide) (by omega) (by unfold maxLen; omega) fun l' s4 h6 => ?_
      (try simp (maxSteps := 1000000) (dsimp := false) (disch := (first | omega | (simp only [okR]; done) | (simp only [sizeR] <;> omega) | fail)) only [↓preR, postR, ↓w_join, Nat.reduceEqDiff, Nat.reduceAdd, Nat.reduceSub, Nat.reduceMul, Int.reduceNeg, Nat.reduceLT, Int.reduceToNat, Nat.reduceLeDiff, Nat.sub_zero])
      refine nxt _ _ none ?_ rfl (fun d hd => by cases hd)
      exact (Hs.nul h6.swap.drop).perm (permK RnK none _ _ _)
    | some d =>
      have c0 : _ = some (Value.int .i64 d.kind) := c0
      have c1 : _ = some (Value.int .i64 d.names) := c1
      have c2 : _ = some (Value.int .i64 d.users) := c2
      have c3 : _ = some (Value.string (bs d.data)) := c3
      have c4 : _ = some (Value.slice (some ⟨d.g, 0, none⟩) 64 d.c) := c4
      (simp (maxSteps := 1000000) (dsimp := false) (disch := (first | omega | (simp only [okR]; done) | (simp only [sizeR] <;> omega) | fail)) only [↓preR, postR, ↓w_join, Nat.reduceEqDiff, Nat.reduceAdd, Nat.reduceSub, Nat.reduceMul, Int.reduceNeg, Nat.reduceLT, Int.reduceToNat, Nat.reduceLeDiff, Nat.sub_zero, g.obj, g.obj1, c0, c1, c2, c3, c4, flat_lenR])
      have hj : ∃ q, L.length = q + 1 := by
        cases hL0 : L.length with
        | zero => rw [hL0] at ho; cases ho
        | succ q => exact ⟨q, rfl⟩
      obtain ⟨q, hq⟩ := hj
      have ho' : x.ns[q]? = some (some d) := by rw [hq, List.getElem?_cons_succ] at ho; exact ho
      have hdok := hx.ok d (List.mem_of_getElem? ho')
      have hdl := hdok.has
      have h3 := (h2.new (cs := [.int .i64 0, .int .i64 0, .int .i64 0, .string (bs []), .slice none 0 0])).put (cs' := [.int .i64 d.kind, .int .i64 d.names, .int .i64 d.users, .string (bs d.data), .slice (some ⟨d.g, 0, none⟩) 64 d.c])
      have hlt2 := h2.drop.dropL
      generalize s1.n = xb at h3 ⊢
      generalize AS.put _ xb _ = s2 at h3 ⊢
      have hb := h3.drop.drop.dropL.celAt (2 + q) (RL_get ho')
      have hsr : ldsS s2 d.g 0 (64 * 1) = some (d.has.map bl) := by
        rw [ldsM hb 64 0 (by simp [hdl]), List.drop_zero, List.take_append_of_le_length (by simp [hdl]), List.take_of_length_le (by simp [hdl])]
      have hokc : (d.has.map bl).all okCell = true := by
        rw [List.all_map, List.all_eq_true]; intro b _; rfl
      refine rapp_by (m := 64) (news := d.has.map bl) (h3.raw0 1) (e := 4) (bytes := 1) (by kernel_rfl) (by kernel_rfl) hsr hokc (by decide) (by unfold maxLen; decide) fun v' s3 h4 => ?_
      obtain ⟨g', c', sp', rfl, hc1, hc2, hc3, hc4, h5⟩ := h4.rawCel (by decide)
      have h6 := h5.put1 (cs' := [.int .i64 d.kind, .int .i64 d.names, .int .i64 d.users, .string (bs d.data), .slice (some ⟨g', 0, none⟩) 64 c'])
      (simp (maxSteps := 1000000) (dsimp := false) (disch := (first | omega | (simp only [okR]; done) | (simp only [sizeR] <;> omega) | fail)) only [↓preR, postR, ↓w_join, Nat.reduceEqDiff, Nat.reduceAdd, Nat.reduceSub, Nat.reduceMul, Int.reduceNeg, Nat.reduceLT, Int.reduceToNat, Nat.reduceLeDiff, Nat.sub_zero, h5.obj1])
      have hn3 : (AS.put s3 xb (.cells [.int .i64 d.kind, .int .i64 d.names, .int .i64 d.users, .string (bs d.data), .slice (some ⟨g', 0, none⟩) 64 c'])).n = s3.n := rfl
      rw [← hn3]
      generalize AS.put s3 xb _ = s4 at h6 ⊢
      have h7 := (h6.swap.drop.junk (.cells [.int .i64 d.kind, .int .i64 d.names, .int .i64 d.users, .string (bs d.data), .slice (some ⟨g', 0, none⟩) 64 c'])).swap
      have hm : (s4.new (.cells [.int .i64 d.kind, .int .i64 d.names, .int .i64 d.users, .string (bs d.data), .slice (some ⟨g', 0, none⟩) 64 c'])).m s4.n = some (.cells [.int .i64 d.kind, .int .i64 d.names, .int .i64 d.users, .string (bs d.data), .slice (some ⟨g', 0, none⟩) 64 c']) := new_eq_
      refine rapp_by (m := 1) (news := [.int .i64 d.kind, .int .i64 d.names, .int .i64 d.users, .string (bs d.data), .slice (some ⟨g', 0, none⟩) 64 c']) h7 (e := 57) (bytes := 64) (by kernel_rfl) (by kernel_rfl) (by rw [ldsM hm 5 0 (by simp)]; rfl) rfl (by omega) (by unfold maxLen; omega) fun l' s5 h8 => ?_
      (try simp (maxSteps := 1000000) (dsimp := false) (disch := (first | omega | (simp only [okR]; done) | (simp only [sizeR] <;> omega) | fail)) only [↓preR, postR, ↓w_join, Nat.reduceEqDiff, Nat.reduceAdd, Nat.reduceSub, Nat.reduceMul, Int.reduceNeg, Nat.reduceLT, Int.reduceToNat, Nat.reduceLeDiff, Nat.sub_zero])
      have hcs : c' = 64 + sp'.length := by
        rw [List.nil_append, List.length_append, List.length_map, hdl] at hc4; omega
      refine nxt _ _ (some ⟨d.kind, d.names, d.users, d.data, g', c', d.has, sp'⟩) ?_ rfl (fun d' hd' => by injection hd' with hd'; subst hd'; exact ⟨hdl, hcs, hc2, hdok.kind, hdok.data⟩)
      exact h8.swap.perm (permK RnK (some ⟨d.kind, d.names, d.users, d.data, g', c', d.has, sp'⟩) _ _ _)
  · obtain hLe : L.length = x.ns.length + 1 := by omega
    obtain ⟨g', c', sp', rfl, hc1, hc2, hc3, hc4, h5⟩ := h2.rawCel (by omega)
    have g0 := h5.drop.dropL
    (simp (maxSteps := 1000000) (dsimp := false) (disch := (first | omega | (simp only [okR]; done) | (simp only [sizeR] <;> omega) | fail)) only [↓preR, postR, ↓w_join, Nat.reduceEqDiff, Nat.reduceAdd, Nat.reduceSub, Nat.reduceMul, Int.reduceNeg, Nat.reduceLT, Int.reduceToNat, Nat.reduceLeDiff, Nat.sub_zero, g.obj, g.obj1])
    rw [hLe, List.take_of_length_le (by simp)] at hsee
    cases L with
    | nil => simp at hLe
    | cons o0 ns' =>
      rw [List.map_cons, List.map_cons] at hsee
      injection hsee with e0 hsee
      cases o0 with
      | some d => cases e0
      | none =>
        have hl' : ns'.length = x.ns.length := by simpa using hLe
        have h6 := (h5.swap.drop).new (cs := [.slice (some ⟨g', 0, none⟩) ((none :: ns').length) c', .int .i64 N])
        have h7 : Hs _ X (RL s1.n N ⟨g', c', sp', ns'⟩ (RL t N x R)) := h6
        have hx2 : RfOk ⟨g', c', sp', ns'⟩ V := ⟨hsee.trans hx.see, fun d hd => hok d (List.mem_cons_of_mem _ hd), by show ns'.length ≤ 1024; omega, by show ns'.length + 1 ≤ c'; simpa using hc1, hc2⟩
        have h8 := Rf.close h7 hx2
        have h9 := h8.perm (permR _ _ _ _ _)
        exact hk _ _ (Rf.close h9 hx).swap
end
end Go.Proofs.Ytmkiaoddkodngaa
