/- Nodes: when all names and users are gone, all is free. Conditions: as each theorem says. -/
import Derived.Test.YtmkiaoddkodngaaInO
namespace Go.Proofs.Ytmkiaoddkodngaa
open E Go.Lib
set_option linter.unusedVariables false
set_option linter.unusedSimpArgs false
set_option maxHeartbeats 2000000
set_option maxRecDepth 20000

theorem ops_arg {c : Ce} {v : Value} (A : OV c (shOf Try.prog 8 41) v) : ∃ l : List Op5, RepL c v l := by
  rw [show shOf Try.prog 8 41 = .slice (.fld 1 (.int .i64) (.fld 1 (.int .i64) (.fld 1 (.int .i64) (.fld 1 (.int .i64) (.fld 1 .str .fin))))) (1 + (1 + (1 + (1 + 1)))) from by kernel_rfl] at A
  exact arg_list (α := Op5) A
theorem ops_get {c : Ce} {v : Value} {l : List Op5} (h : RepL c v l) : ∃ a b o cap, v = .slice a l.length cap ∧ l.length ≤ cap ∧ cap ≤ maxLen ∧ ∀ i (hi : i < l.length), a = some ⟨b, o, none⟩ ∧
    (c b (o + i * 5) = some (.int .i64 l[i].1) ∧ c b (o + i * 5 + 1) = some (.int .i64 l[i].2.1) ∧ c b (o + i * 5 + 1 + 1) = some (.int .i64 l[i].2.2.1) ∧ c b (o + i * 5 + 1 + 1 + 1) = some (.int .i64 l[i].2.2.2.1) ∧ c b (o + i * 5 + 1 + 1 + 1 + 1) = some (.string (bs l[i].2.2.2.2))) ∧
    inI64 l[i].2.1 ∧ inI64 l[i].2.2.1 ∧ inI64 l[i].2.2.2.1 := by
  obtain ⟨a, b, o, cap, h1, h2, h3, h4⟩ := h.get
  refine ⟨a, b, o, cap, h1, h2, h3, fun i hi => ?_⟩
  obtain ⟨h5, cs, h6, _, h7⟩ := h4 i hi
  obtain ⟨x, _, rfl, ⟨rfl, _⟩, x2, _, rfl, ⟨rfl, g2⟩, x3, _, rfl, ⟨rfl, g3⟩, x4, _, rfl, ⟨rfl, g4⟩, rfl, _⟩ := h6
  exact ⟨h5, ⟨h7 0 _ rfl, h7 1 _ rfl, h7 2 _ rfl, h7 3 _ rfl, h7 4 _ rfl⟩, g2, g3, g4⟩
def szN (V : TV) (i : Int) : Nat := match atV V i with | some d => d.data.length | none => 0
theorem szN_eq (V : TV) (i : Int) : ((atV V i).map fun d => (d.data.length : Int)).getD 0 = (szN V i : Int) := by
  unfold szN; cases atV V i <;> rfl
def need (V : TV) : Nat → Nat
  | 0 => 0
  | n + 1 => need V n + (szN V ((n : Int) + 1) + 63) / 64
section
variable {σ σ' : AS} {X : Ce} {R : List Ck} {k : Value → AS → Prop} {t nb sp N m : Nat} {V V' : TV} {ask i at_ n a e : Int} {j : Nat} {data s : List UInt8} {d : NV}
theorem Tb.few (h : Hs σ X (Tb t N V :: R)) (hd : V[j]? = some (some d)) : d.has.count true ≤ (d.data.length + 63) / 64 := by
  obtain ⟨nb, sp, st, ns, hi, rfl, h1⟩ := Tb.open h
  rw [vw_get] at hd
  cases hn : ns[j]? with
  | none => rw [hn] at hd; cases hd
  | some o =>
    rw [hn] at hd
    cases o with
    | none => cases hd
    | some d0 =>
      have hd := Option.some.inj (Option.some.inj hd)
      rw [← hd]
      have g := hi.nd j d0 hn
      have g1 := len_has g
      have g2 := g.few
      have g3 := cont_len st d0.size d0.parts
      have g4 := g.s0
      show ((List.range 64).map fun p : Nat => (d0.parts.lookup (p : Int)).isSome).count true ≤ ((cont st d0.size d0.parts).length + 63) / 64
      rw [g1, g3]; omega
theorem used_need (h : ∀ (j : Nat) d, V[j]? = some (some d) → d.has.count true ≤ (d.data.length + 63) / 64) : ∀ n, n ≤ V.length → used (V.take n) ≤ need V n
  | 0, _ => by simp [used]
  | n + 1, hn => by
    have ih := used_need h n (by omega)
    have hlt : n < V.length := by omega
    have e : used (V.take (n + 1)) = used (V.take n) + use V[n] := by
      unfold used
      rw [List.take_add_one, List.getElem?_eq_getElem hlt, List.map_append, List.sum_append]
      simp
    rw [e]
    show _ ≤ need V n + (szN V ((n : Int) + 1) + 63) / 64
    have ha : atV V ((n : Int) + 1) = V[n] := by
      unfold atV
      rw [if_pos (by omega), show ((n : Int) + 1 - 1).toNat = n from by omega, List.getElem?_eq_getElem hlt]
      rfl
    unfold szN
    rw [ha]
    cases hx : V[n] with
    | none => simp only [use]; omega
    | some d =>
      have := h n d (by rw [List.getElem?_eq_getElem hlt, hx])
      simp only [use]; omega
theorem Tb.need (h : Hs σ X (Tb t N V :: R)) (hl : V.length = 5) : used V ≤ need V 5 := by
  have := used_need (V := V) (fun j d hd => Tb.few h hd) 5 (by omega)
  rwa [List.take_of_length_le (by omega)] at this
theorem Tb.small (h : Hs σ X (Tb t N V :: R)) (i : Int) : szN V i ≤ 4096 := by
  obtain ⟨nb, sp, st, ns, hi, rfl, h1⟩ := Tb.open h
  unfold szN
  rw [vw_at]
  cases hd : nodeAt ns i with
  | none => exact Nat.zero_le _
  | some d =>
    have g := hi.nd _ _ (nodeAt_some hd).2.2
    have g3 := cont_len st d.size d.parts
    have g4 := g.s1
    show (cont st d.size d.parts).length ≤ 4096
    omega
theorem need_le (h : Hs σ X (Tb t N V :: R)) : ∀ n, Go.Proofs.Ytmkiaoddkodngaa.need V n ≤ 65 * n
  | 0 => Nat.le_refl _
  | n + 1 => by
    have := need_le h n
    have g := Tb.small h ((n : Int) + 1)
    show Go.Proofs.Ytmkiaoddkodngaa.need V n + (szN V ((n : Int) + 1) + 63) / 64 ≤ _
    omega
theorem NI.bd {o : Option NV} {x u : Int} {c : Nat} (h : NI o x u c) : 0 ≤ x ∧ x ≤ c ∧ 0 ≤ u ∧ u ≤ c := by
  unfold NI at h
  cases o with
  | none => obtain ⟨h1, h2⟩ := h; omega
  | some d => obtain ⟨h1, h2, h3, h4, h5, h6, h7⟩ := h; omega
theorem put_put_ (V : TV) (i : Int) (o o' : Option NV) : putV (putV V i o) i o' = putV V i o' := by unfold putV; rw [List.set_set]
abbrev LSt (σ : AS) (X : Ce) (t ub nb : Nat) (V : TV) (nm us : Nat → Int) (R : List Ck) : Prop := Hs σ X (Tb t 100 V :: Cel ub (ar6 us) :: Cel nb (ar6 nm) :: R)
theorem leaks_walk {v0 : Value} {ops : List Op5} (h0 : RepL X v0 ops) (h : Hs σ X []) : kCall Try.prog 6 [v0] σ fun v _ => v = .bool true := by
  obtain ⟨va, vb, vo, vc, rfl, hle, hmx, hat⟩ := ops_get h0
  unfold maxLen at hmx
  refine f6 ?_
  (try simp (maxSteps := 1000000) (dsimp := false) (disch := (first | omega | (simp only [okR]; done) | (simp only [sizeR] <;> omega) | fail)) only [↓preR, postR, ↓w_join, Nat.reduceEqDiff, Nat.reduceAdd, Nat.reduceSub, Nat.reduceMul, Int.reduceNeg, Nat.reduceLT, Int.reduceToNat, Nat.reduceLeDiff, Nat.sub_zero, F6])
  refine vnew_c h (fun hb => by omega) (fun t σ1 _ _ _ _ h1 => ?_)
  (try simp (maxSteps := 1000000) (dsimp := false) (disch := (first | omega | (simp only [okR]; done) | (simp only [sizeR] <;> omega) | fail)) only [↓preR, postR, ↓w_stop, Nat.reduceEqDiff, Nat.reduceAdd, Nat.reduceSub, Nat.reduceMul, Int.reduceNeg, Nat.reduceLT, Int.reduceToNat, Nat.reduceLeDiff, Nat.sub_zero])
  refine join_now ?_
  (try simp (maxSteps := 1000000) (dsimp := false) (disch := (first | omega | (simp only [okR]; done) | (simp only [sizeR] <;> omega) | fail)) only [↓preR, postR, ↓w_stop, Nat.reduceEqDiff, Nat.reduceAdd, Nat.reduceSub, Nat.reduceMul, Int.reduceNeg, Nat.reduceLT, Int.reduceToNat, Nat.reduceLeDiff, Nat.sub_zero])
  have h2 : LSt ((σ1.new (.cells [.int .i64 0, .int .i64 0, .int .i64 0, .int .i64 0, .int .i64 0, .int .i64 0])).new (.cells [.int .i64 0, .int .i64 0, .int .i64 0, .int .i64 0, .int .i64 0, .int .i64 0])) X t (σ1.new (.cells [.int .i64 0, .int .i64 0, .int .i64 0, .int .i64 0, .int .i64 0, .int .i64 0])).n σ1.n (List.replicate 5 none) (fun _ => 0) (fun _ => 0) [] := h1.new.new.rot2
  generalize (σ1.new (.cells [.int .i64 0, .int .i64 0, .int .i64 0, .int .i64 0, .int .i64 0, .int .i64 0])).new (.cells [.int .i64 0, .int .i64 0, .int .i64 0, .int .i64 0, .int .i64 0, .int .i64 0]) = σ2 at h2 ⊢
  generalize (σ1.new (.cells [.int .i64 0, .int .i64 0, .int .i64 0, .int .i64 0, .int .i64 0, .int .i64 0])).n = ub at h2 ⊢
  generalize σ1.n = nb at h2 ⊢
  refine join_by fun J hJ => ?_
  have ph2 : ∀ s V nm us, LSt s X t ub nb V nm us [] → LI V nm us 80 → J [] s := by
    intro s V nm us h3 hli
    refine hJ _ _ ?_
    clear hJ hat h2
    (try simp (maxSteps := 1000000) (dsimp := false) (disch := (first | omega | (simp only [okR]; done) | (simp only [sizeR] <;> omega) | fail)) only [↓preR, postR, ↓w_join, Nat.reduceEqDiff, Nat.reduceAdd, Nat.reduceSub, Nat.reduceMul, Int.reduceNeg, Nat.reduceLT, Int.reduceToNat, Nat.reduceLeDiff, Nat.sub_zero])
    refine loop_inv (fun n xs s => ∃ (k : Nat) (V : TV) (nm us : Nat → Int), xs = [.int .i64 ((k : Int) + 1)] ∧ k ≤ 5 ∧ LSt s X t ub nb V nm us [] ∧ LI V nm us 80 ∧ (∀ i : Nat, 1 ≤ i → i ≤ k → atV V i = none) ∧ n = 5 - k) _ ⟨0, V, nm, us, rfl, by omega, h3, hli, fun i h1 h2 => by omega, rfl⟩ ?_
    clear h3 hli
    rintro n _ s again ⟨k, V, nm, us, rfl, hk5, h3, hli, hno, rfl⟩ hag
    by_cases hk : k < 5
    rotate_left
    · obtain rfl : k = 5 := by omega
      (simp (maxSteps := 1000000) (dsimp := false) (disch := (first | omega | (simp only [okR]; done) | (simp only [sizeR] <;> omega) | fail)) only [↓preR, postR, ↓w_join, Nat.reduceEqDiff, Nat.reduceAdd, Nat.reduceSub, Nat.reduceMul, Int.reduceNeg, Nat.reduceLT, Int.reduceToNat, Nat.reduceLeDiff, Nat.sub_zero])
      refine vfree_c h3 fun hle => ?_
      have hV : V = [none, none, none, none, none] := by
        have hl := hli.len
        have g : ∀ i : Nat, i < 5 → V[i]? = some none := by
          intro i hi
          have := hno (i + 1) (by omega) (by omega)
          unfold atV at this
          rw [if_pos (by omega), show (((i + 1 : Nat) : Int) - 1).toNat = i from by omega, List.getElem?_eq_getElem (by omega)] at this
          rw [List.getElem?_eq_getElem (by omega)]
          exact congrArg some this
        apply List.ext_getElem?
        intro i
        by_cases hi : i < 5
        · rw [g i hi]
          match i, hi with
          | 0, _ => rfl
          | 1, _ => rfl
          | 2, _ => rfl
          | 3, _ => rfl
          | 4, _ => rfl
        · rw [List.getElem?_eq_none (by omega), List.getElem?_eq_none (by simpa using hi)]
      have e1 : ((V.countP (·.isNone) : Nat) : Int) = 5 := by rw [hV]; rfl
      have e2 : (((100 : Int).toNat - used V : Nat) : Int) = 100 := by rw [hV]; rfl
      (simp (maxSteps := 1000000) (dsimp := false) (disch := (first | omega | (simp only [okR]; done) | (simp only [sizeR] <;> omega) | fail)) only [↓preR, postR, ↓w_join, Nat.reduceEqDiff, Nat.reduceAdd, Nat.reduceSub, Nat.reduceMul, Int.reduceNeg, Nat.reduceLT, Int.reduceToNat, Nat.reduceLeDiff, Nat.sub_zero, e1, e2])
      refine awake_c h3 fun σ' => ?_
      (try simp (maxSteps := 1000000) (dsimp := false) (disch := (first | omega | (simp only [okR]; done) | (simp only [sizeR] <;> omega) | fail)) only [↓preR, postR, ↓w_join, Nat.reduceEqDiff, Nat.reduceAdd, Nat.reduceSub, Nat.reduceMul, Int.reduceNeg, Nat.reduceLT, Int.reduceToNat, Nat.reduceLeDiff, Nat.sub_zero])
    have hm := h3.obj2
    have hnn : (((k : Int) + 1)) = ((k + 1 : Nat) : Int) := by omega
    have hni := hli.at_ (k + 1) (by omega) (by omega)
    have nxt : ∀ s' V' nm' us', LSt s' X t ub nb V' nm' us' [] → V'.length = 5 → (∀ i : Int, i ≠ (k : Int) + 1 → atV V' i = atV V i) → atV V' ((k : Int) + 1) = none → (∀ i, i ≠ k + 1 → nm' i = nm i ∧ us' i = us i) → nm' (k + 1) = 0 → us' (k + 1) = 0 → again [.int .i64 ((k : Int) + 1 + 1)] s' := by
      intro s' V' nm' us' g1 g2 g3 g4 g5 g6 g7
      refine hag _ _ _ ⟨k + 1, V', nm', us', by simp, by omega, g1, ⟨g2, fun i i1 i5 => ?_⟩, fun i i1 i2 => ?_, rfl⟩ (by omega)
      · by_cases hx : i = k + 1
        · subst hx
          rw [show ((k + 1 : Nat) : Int) = (k : Int) + 1 from by omega, g4]
          exact ⟨g6, g7⟩
        · rw [g3 _ (by omega), (g5 i hx).1, (g5 i hx).2]
          exact hli.at_ i i1 i5
      · by_cases hx : i = k + 1
        · subst hx
          rw [show ((k + 1 : Nat) : Int) = (k : Int) + 1 from by omega, g4]
        · rw [g3 _ (by omega)]
          exact hno i i1 (by omega)
    clear hag
    rw [← hnn] at hni
    cases hd : atV V ((k : Int) + 1) with
    | none =>
      rw [hd] at hni
      obtain ⟨n0, u0⟩ := hni
      (simp (maxSteps := 1000000) (dsimp := false) (disch := (first | omega | (simp only [okR]; done) | (simp only [sizeR] <;> omega) | fail)) only [↓preR, postR, ↓w_join, Nat.reduceEqDiff, Nat.reduceAdd, Nat.reduceSub, Nat.reduceMul, Int.reduceNeg, Nat.reduceLT, Int.reduceToNat, Nat.reduceLeDiff, Nat.sub_zero, hm, ar6_get])
      refine vlinks_c h3 ?_
      rw [hd]
      (simp (maxSteps := 1000000) (dsimp := false) (disch := (first | omega | (simp only [okR]; done) | (simp only [sizeR] <;> omega) | fail)) only [↓preR, postR, ↓w_join, Nat.reduceEqDiff, Nat.reduceAdd, Nat.reduceSub, Nat.reduceMul, Int.reduceNeg, Nat.reduceLT, Int.reduceToNat, Nat.reduceLeDiff, Nat.sub_zero, hm, ar6_get, n0, Option.getD_none])
      refine vkind_c h3 ?_
      rw [hd]
      (simp (maxSteps := 1000000) (dsimp := false) (disch := (first | omega | (simp only [okR]; done) | (simp only [sizeR] <;> omega) | fail)) only [↓preR, postR, ↓w_join, Nat.reduceEqDiff, Nat.reduceAdd, Nat.reduceSub, Nat.reduceMul, Int.reduceNeg, Nat.reduceLT, Int.reduceToNat, Nat.reduceLeDiff, Nat.sub_zero, Option.getD_none])
      refine loop_inv (fun n xs s => xs = [] ∧ LSt s X t ub nb V nm us []) 0 ⟨rfl, h3⟩ ?_
      rintro _ _ s1 _ ⟨rfl, h4⟩ _
      have hm1 := h4.obj2
      (simp (maxSteps := 1000000) (dsimp := false) (disch := (first | omega | (simp only [okR]; done) | (simp only [sizeR] <;> omega) | fail)) only [↓preR, postR, ↓w_join, Nat.reduceEqDiff, Nat.reduceAdd, Nat.reduceSub, Nat.reduceMul, Int.reduceNeg, Nat.reduceLT, Int.reduceToNat, Nat.reduceLeDiff, Nat.sub_zero, hm1, ar6_get, n0])
      refine loop_inv (fun n xs s => xs = [] ∧ LSt s X t ub nb V nm us []) 0 ⟨rfl, h4⟩ ?_
      rintro _ _ s2 _ ⟨rfl, h5⟩ _
      have hm2 := h5.obj1
      (simp (maxSteps := 1000000) (dsimp := false) (disch := (first | omega | (simp only [okR]; done) | (simp only [sizeR] <;> omega) | fail)) only [↓preR, postR, ↓w_join, Nat.reduceEqDiff, Nat.reduceAdd, Nat.reduceSub, Nat.reduceMul, Int.reduceNeg, Nat.reduceLT, Int.reduceToNat, Nat.reduceLeDiff, Nat.sub_zero, hm2, ar6_get, u0])
      refine vkind_c h5 ?_
      rw [hd]
      (simp (maxSteps := 1000000) (dsimp := false) (disch := (first | omega | (simp only [okR]; done) | (simp only [sizeR] <;> omega) | fail)) only [↓preR, postR, ↓w_join, Nat.reduceEqDiff, Nat.reduceAdd, Nat.reduceSub, Nat.reduceMul, Int.reduceNeg, Nat.reduceLT, Int.reduceToNat, Nat.reduceLeDiff, Nat.sub_zero, Option.getD_none])
      refine vsize_c h5 ?_
      rw [hd]
      (simp (maxSteps := 1000000) (dsimp := false) (disch := (first | omega | (simp only [okR]; done) | (simp only [sizeR] <;> omega) | fail)) only [↓preR, postR, ↓w_join, Nat.reduceEqDiff, Nat.reduceAdd, Nat.reduceSub, Nat.reduceMul, Int.reduceNeg, Nat.reduceLT, Int.reduceToNat, Nat.reduceLeDiff, Nat.sub_zero, Option.getD_none])
      refine vloose_c (at_ := 0) (n := 0) (data := []) h5 (fun d hd' => by rw [hd] at hd'; cases hd') fun s3 h6 => ?_
      have e4 : doM (4, (k : Int) + 1, 0, 0, []) V 0 = ((0, [], 23), V) := by
        simp only [doM]
        rw [hd]
        rfl
      rw [e4] at h6 ⊢
      (simp (maxSteps := 1000000) (dsimp := false) (disch := (first | omega | (simp only [okR]; done) | (simp only [sizeR] <;> omega) | fail)) only [↓preR, postR, ↓w_join, Nat.reduceEqDiff, Nat.reduceAdd, Nat.reduceSub, Nat.reduceMul, Int.reduceNeg, Nat.reduceLT, Int.reduceToNat, Nat.reduceLeDiff, Nat.sub_zero])
      exact nxt _ _ _ _ h6 hli.len (fun _ _ => rfl) hd (fun _ _ => ⟨rfl, rfl⟩) n0 u0
    | some d =>
      rw [hd] at hni
      obtain ⟨n1, u1, n2, n3, u2, u3, kd⟩ := hni
      (simp (maxSteps := 1000000) (dsimp := false) (disch := (first | omega | (simp only [okR]; done) | (simp only [sizeR] <;> omega) | fail)) only [↓preR, postR, ↓w_join, Nat.reduceEqDiff, Nat.reduceAdd, Nat.reduceSub, Nat.reduceMul, Int.reduceNeg, Nat.reduceLT, Int.reduceToNat, Nat.reduceLeDiff, Nat.sub_zero, hm, ar6_get])
      refine vlinks_c h3 ?_
      rw [hd]
      (simp (maxSteps := 1000000) (dsimp := false) (disch := (first | omega | (simp only [okR]; done) | (simp only [sizeR] <;> omega) | fail)) only [↓preR, postR, ↓w_join, Nat.reduceEqDiff, Nat.reduceAdd, Nat.reduceSub, Nat.reduceMul, Int.reduceNeg, Nat.reduceLT, Int.reduceToNat, Nat.reduceLeDiff, Nat.sub_zero, hm, ar6_get, n1, Option.getD_some])
      refine vkind_c h3 ?_
      rw [hd]
      (simp (maxSteps := 1000000) (dsimp := false) (disch := (first | omega | (simp only [okR]; done) | (simp only [sizeR] <;> omega) | fail)) only [↓preR, postR, ↓w_join, Nat.reduceEqDiff, Nat.reduceAdd, Nat.reduceSub, Nat.reduceMul, Int.reduceNeg, Nat.reduceLT, Int.reduceToNat, Nat.reduceLeDiff, Nat.sub_zero, Option.getD_some])
      have i1 : (1 : Int) ≤ (k : Int) + 1 := by omega
      have i2 : (k : Int) + 1 ≤ V.length := by rw [hli.len]; omega
      have aW : ∀ o : Option NV, atV (putV V ((k : Int) + 1) o) ((k : Int) + 1) = o := fun o => by rw [atV_put o i1 i2, if_pos rfl]
      have aZ : ∀ (o : Option NV) (i : Int), i ≠ (k : Int) + 1 → atV (putV V ((k : Int) + 1) o) i = atV V i := fun o i hi => by rw [atV_put o i1 i2, if_neg hi]
      have r3 : doM (3, (k : Int) + 1, 0, 0, []) V 0 = ((0, [], 0), putV V ((k : Int) + 1) (some ⟨d.kind, d.names, d.users + 1, d.data, d.has⟩)) := by
        simp only [doM]
        rw [hd]
        rfl
      refine vhold_c (at_ := 0) (n := 0) (data := []) h3 (fun d' hd' => by rw [hd] at hd'; have := Option.some.inj hd'; subst this; omega) fun s1 h4 => ?_
      rw [r3] at h4 ⊢
      have hm1 := h4.obj1
      (simp (maxSteps := 1000000) (dsimp := false) (disch := (first | omega | (simp only [okR]; done) | (simp only [sizeR] <;> omega) | fail)) only [↓preR, postR, ↓w_join, Nat.reduceEqDiff, Nat.reduceAdd, Nat.reduceSub, Nat.reduceMul, Int.reduceNeg, Nat.reduceLT, Int.reduceToNat, Nat.reduceLeDiff, Nat.sub_zero, hm1, ar6_get, ar6_len])
      have h5 := h4.put1 (cs' := (ar6 us).set (k + 1) (.int .i64 (us (k + 1) + 1)))
      generalize AS.put s1 ub _ = s2 at h5 ⊢
      rw [ar6_set] at h5
      obtain ⟨x0, hx0⟩ : ∃ x0 : Nat, (x0 : Int) = d.names := ⟨d.names.toNat, by omega⟩
      obtain ⟨y0, hy0⟩ : ∃ y0 : Nat, (y0 : Int) = d.users := ⟨d.users.toNat, by omega⟩
      have h6 : LSt s2 X t ub nb (putV V ((k : Int) + 1) (some ⟨d.kind, x0, (y0 : Int) + 1, d.data, d.has⟩)) (upN nm (k + 1) x0) (upN us (k + 1) ((y0 : Int) + 1)) [] := by
        have := upN_self nm (k + 1)
        rw [n1] at this
        rw [u1] at h5
        unfold LSt
        rw [hx0, hy0, this]
        exact h5
      clear h5 h4 hm1 hm h3
      have uat : ∀ {α : Type} (f : Nat → α) (n : Nat) (a : α), upN f n a n = a := fun f n a => by unfold upN; rw [if_pos rfl]
      have uu : ∀ (f : Nat → Int) (n : Nat) (a b : Int), upN (upN f n a) n b = upN f n b := fun f n a b => by
        funext i; unfold upN; split <;> rfl
      refine loop_inv (fun n xs s => ∃ x : Nat, xs = [] ∧ x ≤ x0 ∧ LSt s X t ub nb (putV V ((k : Int) + 1) (some ⟨d.kind, x, (y0 : Int) + 1, d.data, d.has⟩)) (upN nm (k + 1) x) (upN us (k + 1) ((y0 : Int) + 1)) [] ∧ n = x) _ ⟨x0, rfl, by omega, h6, rfl⟩ ?_
      clear h6
      rintro x _ s3 again2 ⟨_, rfl, hx, h7, rfl⟩ hag2
      have hm2 := h7.obj2
      cases x with
      | succ x =>
        (simp (maxSteps := 1000000) (dsimp := false) (disch := (first | omega | (simp only [okR]; done) | (simp only [sizeR] <;> omega) | fail)) only [↓preR, postR, ↓w_join, Nat.reduceEqDiff, Nat.reduceAdd, Nat.reduceSub, Nat.reduceMul, Int.reduceNeg, Nat.reduceLT, Int.reduceToNat, Nat.reduceLeDiff, Nat.sub_zero, hm2, ar6_get, ar6_len, uat])
        have h8 := h7.put2 (cs' := (ar6 (upN nm (k + 1) ((x + 1 : Nat) : Int))).set (k + 1) (.int .i64 x))
        have ex : (((x + 1 : Nat) : Int) - 1) = (x : Int) := by omega
        rw [ex]
        generalize AS.put s3 nb _ = s5 at h8 ⊢
        rw [ar6_set, uu] at h8
        have r2 : doM (2, (k : Int) + 1, 0, 0, []) (putV V ((k : Int) + 1) (some ⟨d.kind, ((x + 1 : Nat) : Int), (y0 : Int) + 1, d.data, d.has⟩)) 0 = ((0, [], 0), putV V ((k : Int) + 1) (some ⟨d.kind, x, (y0 : Int) + 1, d.data, d.has⟩)) := by
          have a1 : ¬ ((x + 1 : Nat) : Int) = 0 := by omega
          have a2 : ¬ ((x : Int) = 0 ∧ (y0 : Int) + 1 = 0) := by omega
          simp only [doM]
          rw [aW]
          simp only [a1, a2, if_false, put_put_, ex]
          rfl
        refine vuntie_c (at_ := 0) (n := 0) (data := []) h8 (fun d' hd' => by rw [aW] at hd'; have := Option.some.inj hd'; subst this; show -1000000 ≤ ((x + 1 : Nat) : Int) ∧ ((x + 1 : Nat) : Int) ≤ 1000000; omega) fun s6 h9 => ?_
        rw [r2] at h9 ⊢
        (simp (maxSteps := 1000000) (dsimp := false) (disch := (first | omega | (simp only [okR]; done) | (simp only [sizeR] <;> omega) | fail)) only [↓preR, postR, ↓w_join, Nat.reduceEqDiff, Nat.reduceAdd, Nat.reduceSub, Nat.reduceMul, Int.reduceNeg, Nat.reduceLT, Int.reduceToNat, Nat.reduceLeDiff, Nat.sub_zero])
        exact hag2 _ _ _ ⟨x, rfl, by omega, h9, rfl⟩ (by omega)
      | zero =>
        clear hag2
        (simp (maxSteps := 1000000) (dsimp := false) (disch := (first | omega | (simp only [okR]; done) | (simp only [sizeR] <;> omega) | fail)) only [↓preR, postR, ↓w_join, Nat.reduceEqDiff, Nat.reduceAdd, Nat.reduceSub, Nat.reduceMul, Int.reduceNeg, Nat.reduceLT, Int.reduceToNat, Nat.reduceLeDiff, Nat.sub_zero, hm2, ar6_get, uat])
        refine loop_inv (fun n xs s => ∃ u : Nat, xs = [] ∧ u ≤ y0 + 1 ∧ LSt s X t ub nb (putV V ((k : Int) + 1) (if u = 0 then none else some ⟨d.kind, 0, u, d.data, d.has⟩)) (upN nm (k + 1) 0) (upN us (k + 1) u) [] ∧ n = u) _ ⟨y0 + 1, rfl, by omega, by rw [if_neg (by omega)]; exact h7, rfl⟩ ?_
        clear h7 hm2
        rintro u _ s4 again3 ⟨_, rfl, hu, h9, rfl⟩ hag3
        have hm3 := h9.obj1
        cases u with
        | succ u =>
          (simp (maxSteps := 1000000) (dsimp := false) (disch := (first | omega | (simp only [okR]; done) | (simp only [sizeR] <;> omega) | fail)) only [↓preR, postR, ↓w_join, Nat.reduceEqDiff, Nat.reduceAdd, Nat.reduceSub, Nat.reduceMul, Int.reduceNeg, Nat.reduceLT, Int.reduceToNat, Nat.reduceLeDiff, Nat.sub_zero, hm3, ar6_get, ar6_len, uat])
          have h8 := h9.put1 (cs' := (ar6 (upN us (k + 1) ((u + 1 : Nat) : Int))).set (k + 1) (.int .i64 u))
          have ex : (((u + 1 : Nat) : Int) - 1) = (u : Int) := by omega
          rw [ex]
          generalize AS.put s4 ub _ = s5 at h8 ⊢
          rw [ar6_set, uu, if_neg (by omega)] at h8
          have r4 : doM (4, (k : Int) + 1, 0, 0, []) (putV V ((k : Int) + 1) (some ⟨d.kind, 0, ((u + 1 : Nat) : Int), d.data, d.has⟩)) 0 = ((0, [], 0), putV V ((k : Int) + 1) (if u = 0 then none else some ⟨d.kind, 0, u, d.data, d.has⟩)) := by
            have a1 : ¬ ((u + 1 : Nat) : Int) = 0 := by omega
            simp only [doM]
            rw [aW]
            simp only [a1, if_false, put_put_, ex]
            by_cases hu0 : u = 0
            · subst hu0; rfl
            · have a2 : ¬ (u : Int) = 0 := by omega
              simp only [a2, hu0, and_false, if_false]
              rfl
          refine vloose_c (at_ := 0) (n := 0) (data := []) h8 (fun d' hd' => by rw [aW] at hd'; have := Option.some.inj hd'; subst this; show -1000000 ≤ ((u + 1 : Nat) : Int) ∧ ((u + 1 : Nat) : Int) ≤ 1000000; omega) fun s6 h10 => ?_
          rw [r4] at h10 ⊢
          (simp (maxSteps := 1000000) (dsimp := false) (disch := (first | omega | (simp only [okR]; done) | (simp only [sizeR] <;> omega) | fail)) only [↓preR, postR, ↓w_join, Nat.reduceEqDiff, Nat.reduceAdd, Nat.reduceSub, Nat.reduceMul, Int.reduceNeg, Nat.reduceLT, Int.reduceToNat, Nat.reduceLeDiff, Nat.sub_zero])
          exact hag3 _ _ _ ⟨u, rfl, by omega, h10, rfl⟩ (by omega)
        | zero =>
          (simp (maxSteps := 1000000) (dsimp := false) (disch := (first | omega | (simp only [okR]; done) | (simp only [sizeR] <;> omega) | fail)) only [↓preR, postR, ↓w_join, Nat.reduceEqDiff, Nat.reduceAdd, Nat.reduceSub, Nat.reduceMul, Int.reduceNeg, Nat.reduceLT, Int.reduceToNat, Nat.reduceLeDiff, Nat.sub_zero, hm3, ar6_get, uat])
          rw [if_pos rfl] at h9
          refine vkind_c h9 ?_
          rw [aW]
          (simp (maxSteps := 1000000) (dsimp := false) (disch := (first | omega | (simp only [okR]; done) | (simp only [sizeR] <;> omega) | fail)) only [↓preR, postR, ↓w_join, Nat.reduceEqDiff, Nat.reduceAdd, Nat.reduceSub, Nat.reduceMul, Int.reduceNeg, Nat.reduceLT, Int.reduceToNat, Nat.reduceLeDiff, Nat.sub_zero, Option.getD_none])
          refine vsize_c h9 ?_
          rw [aW]
          (simp (maxSteps := 1000000) (dsimp := false) (disch := (first | omega | (simp only [okR]; done) | (simp only [sizeR] <;> omega) | fail)) only [↓preR, postR, ↓w_join, Nat.reduceEqDiff, Nat.reduceAdd, Nat.reduceSub, Nat.reduceMul, Int.reduceNeg, Nat.reduceLT, Int.reduceToNat, Nat.reduceLeDiff, Nat.sub_zero, Option.getD_none])
          refine vloose_c (at_ := 0) (n := 0) (data := []) h9 (fun d hd' => by rw [aW] at hd'; cases hd') fun s5 h10 => ?_
          have e4 : doM (4, (k : Int) + 1, 0, 0, []) (putV V ((k : Int) + 1) none) 0 = ((0, [], 23), putV V ((k : Int) + 1) none) := by
            simp only [doM]
            rw [aW]
            rfl
          rw [e4] at h10 ⊢
          (simp (maxSteps := 1000000) (dsimp := false) (disch := (first | omega | (simp only [okR]; done) | (simp only [sizeR] <;> omega) | fail)) only [↓preR, postR, ↓w_join, Nat.reduceEqDiff, Nat.reduceAdd, Nat.reduceSub, Nat.reduceMul, Int.reduceNeg, Nat.reduceLT, Int.reduceToNat, Nat.reduceLeDiff, Nat.sub_zero])
          exact nxt _ _ _ _ h10 (by rw [List.length_set]; exact hli.len) (aZ _) (aW _) (fun i hi => by unfold upN; rw [if_neg hi, if_neg hi]; exact ⟨rfl, rfl⟩) (uat _ _ _) (uat _ _ _)
  have li0 : LI (List.replicate 5 none) (fun _ => 0) (fun _ => 0) 0 := ⟨rfl, fun i i1 i5 => by
    have : atV (List.replicate 5 none) (i : Int) = none := by
      unfold atV
      split
      · rw [List.getElem?_replicate]; split <;> rfl
      · rfl
    rw [this]; exact ⟨rfl, rfl⟩⟩
  refine loop_inv (fun n xs s => ∃ (i : Nat) (V : TV) (nm us : Nat → Int), xs = [.int .i64 (i : Nat)] ∧ i ≤ 80 ∧ i ≤ ops.length ∧ LSt s X t ub nb V nm us [] ∧ LI V nm us i ∧ n = 80 - i) _ ⟨0, _, _, _, rfl, by omega, by omega, h2, li0, rfl⟩ ?_
  clear h2 li0
  rintro n _ s again ⟨i, V, nm, us, rfl, hi, hil, h3, hli, rfl⟩ hag
  by_cases hc : i < ops.length ∧ i < 80
  rotate_left
  · by_cases hlt : i < ops.length
    · have hl' : (i : Int) < ops.length := by omega
      have : ¬ (i : Int) < 80 := by omega
      (try simp (maxSteps := 1000000) (dsimp := false) (disch := (first | omega | (simp only [okR]; done) | (simp only [sizeR] <;> omega) | fail)) only [↓preR, postR, ↓w_join, Nat.reduceEqDiff, Nat.reduceAdd, Nat.reduceSub, Nat.reduceMul, Int.reduceNeg, Nat.reduceLT, Int.reduceToNat, Nat.reduceLeDiff, Nat.sub_zero])
      exact ph2 _ _ _ _ h3 (hli.mono hi)
    · have hl' : ¬ (i : Int) < ops.length := by omega
      (try simp (maxSteps := 1000000) (dsimp := false) (disch := (first | omega | (simp only [okR]; done) | (simp only [sizeR] <;> omega) | fail)) only [↓preR, postR, ↓w_join, Nat.reduceEqDiff, Nat.reduceAdd, Nat.reduceSub, Nat.reduceMul, Int.reduceNeg, Nat.reduceLT, Int.reduceToNat, Nat.reduceLeDiff, Nat.sub_zero])
      exact ph2 _ _ _ _ h3 (hli.mono hi)
  clear ph2 hJ
  obtain ⟨hlt, h80⟩ := hc
  obtain ⟨rfl, ⟨x0, x1, x2, x3, x4⟩, q1, q2, q3⟩ := hat i hlt
  have y0 := h3.ldx x0
  have y1 := h3.ldx x1
  have y2 := h3.ldx x2
  have y3 := h3.ldx x3
  have y4 := h3.ldx x4
  have hl' : (i : Int) < ops.length := by omega
  have nxt : ∀ s' V' nm' us' C, LSt s' X t ub nb V' nm' us' [C] → LI V' nm' us' (i + 1) → again [.int .i64 ((i : Int) + 1)] s' := fun s' V' nm' us' C g1 g2 =>
    hag _ _ _ ⟨i + 1, V', nm', us', by simp, by omega, by omega, (Hs.rot3 g1).drop, g2, rfl⟩ (by omega)
  clear hag
  generalize ops[i].1 = ask at x0 x1 x2 x3 x4 y0 y1 y2 y3 y4 q1 q2 q3
  generalize ops[i].2.1 = I at x0 x1 x2 x3 x4 y0 y1 y2 y3 y4 q1 q2 q3
  generalize ops[i].2.2.1 = at_ at x0 x1 x2 x3 x4 y0 y1 y2 y3 y4 q1 q2 q3
  generalize ops[i].2.2.2.1 = nn at x0 x1 x2 x3 x4 y0 y1 y2 y3 y4 q1 q2 q3
  generalize ops[i].2.2.2.2 = data at x0 x1 x2 x3 x4 y0 y1 y2 y3 y4 q1 q2 q3
  have h4 := (Hs.new h3 (cs := [.int .i64 0, .int .i64 0, .int .i64 0, .int .i64 0, .string (bs [])])).put (cs' := [.int .i64 ask, .int .i64 I, .int .i64 at_, .int .i64 nn, .string (bs data)]) |>.un3
  by_cases hdl : data.length ≤ 5000
  rotate_left
  · (simp (maxSteps := 1000000) (dsimp := false) (disch := (first | omega | (simp only [okR]; done) | (simp only [sizeR] <;> omega) | fail)) only [↓preR, postR, ↓w_join, Nat.reduceEqDiff, Nat.reduceAdd, Nat.reduceSub, Nat.reduceMul, Int.reduceNeg, Nat.reduceLT, Int.reduceToNat, Nat.reduceLeDiff, Nat.sub_zero, y0, y1, y2, y3, y4])
    exact awake_c h4 fun σ' => rfl
  by_cases h8 : ask = 8
  · subst h8
    (simp (maxSteps := 1000000) (dsimp := false) (disch := (first | omega | (simp only [okR]; done) | (simp only [sizeR] <;> omega) | fail)) only [↓preR, postR, ↓w_join, Nat.reduceEqDiff, Nat.reduceAdd, Nat.reduceSub, Nat.reduceMul, Int.reduceNeg, Nat.reduceLT, Int.reduceToNat, Nat.reduceLeDiff, Nat.sub_zero, y0, y1, y2, y3, y4])
    exact nxt _ _ _ _ _ h4 (hli.mono (by omega))
  (simp (maxSteps := 1000000) (dsimp := false) (disch := (first | omega | (simp only [okR]; done) | (simp only [sizeR] <;> omega) | fail)) only [↓preR, postR, ↓w_join, Nat.reduceEqDiff, Nat.reduceAdd, Nat.reduceSub, Nat.reduceMul, Int.reduceNeg, Nat.reduceLT, Int.reduceToNat, Nat.reduceLeDiff, Nat.sub_zero, y0, y1, y2, y3, y4, h8])
  clear y0 y1 y2 y3 y4 h3 x0 x1 x2 x3 x4
  generalize s.n = ob at h4 ⊢
  generalize AS.put _ ob _ = s4 at h4 ⊢
  have hst := hli.step ask I at_ nn data
  refine do_c q1 q2 q3 (by omega) h4 (fun d hd => by have := hli.hav hd; omega) fun m s5 hmo h5 => ?_
  replace hst := hst m
  have hbd : 1 ≤ I → I ≤ 5 → 0 ≤ nm I.toNat ∧ nm I.toNat ≤ i ∧ 0 ≤ us I.toNat ∧ us I.toNat ≤ i := fun i1 i5 => (hli.at_ I.toNat (by omega) (by omega)).bd
  clear hmo hli h4
  generalize doM (ask, I, at_, nn, data) V m = r at hst h5 ⊢
  obtain ⟨⟨a, str, e⟩, V'⟩ := r
  simp only at hst h5 ⊢
  (try simp (maxSteps := 1000000) (dsimp := false) (disch := (first | omega | (simp only [okR]; done) | (simp only [sizeR] <;> omega) | fail)) only [↓preR, postR, ↓w_stop, Nat.reduceEqDiff, Nat.reduceAdd, Nat.reduceSub, Nat.reduceMul, Int.reduceNeg, Nat.reduceLT, Int.reduceToNat, Nat.reduceLeDiff, Nat.sub_zero])
  refine join_by fun J hJ => ?_
  have tail : ∀ s' nm' us', LSt s' X t ub nb V' nm' us' [Cel ob [.int .i64 ask, .int .i64 I, .int .i64 at_, .int .i64 nn, .string (bs data)]] → LI V' nm' us' (i + 1) → J [] s' := by
    intro s' nm' us' g1 g2
    refine hJ _ _ ?_
    clear hJ hst h5
    (try simp (maxSteps := 1000000) (dsimp := false) (disch := (first | omega | (simp only [okR]; done) | (simp only [sizeR] <;> omega) | fail)) only [↓preR, postR, ↓w_join, Nat.reduceEqDiff, Nat.reduceAdd, Nat.reduceSub, Nat.reduceMul, Int.reduceNeg, Nat.reduceLT, Int.reduceToNat, Nat.reduceLeDiff, Nat.sub_zero])
    refine vfree_c g1 fun hle => ?_
    (try simp (maxSteps := 1000000) (dsimp := false) (disch := (first | omega | (simp only [okR]; done) | (simp only [sizeR] <;> omega) | fail)) only [↓preR, postR, ↓w_join, Nat.reduceEqDiff, Nat.reduceAdd, Nat.reduceSub, Nat.reduceMul, Int.reduceNeg, Nat.reduceLT, Int.reduceToNat, Nat.reduceLeDiff, Nat.sub_zero])
    refine loop_inv (fun n xs s => ∃ k : Nat, xs = [.int .i64 (need V' k : Nat), .int .i64 ((k : Int) + 1)] ∧ k ≤ 5 ∧ s' = s ∧ n = 5 - k) _ ⟨0, rfl, by omega, rfl, rfl⟩ ?_
    rintro n _ _ again2 ⟨k, rfl, hk, rfl, rfl⟩ hag2
    by_cases hk5 : k < 5
    · (simp (maxSteps := 1000000) (dsimp := false) (disch := (first | omega | (simp only [okR]; done) | (simp only [sizeR] <;> omega) | fail)) only [↓preR, postR, ↓w_join, Nat.reduceEqDiff, Nat.reduceAdd, Nat.reduceSub, Nat.reduceMul, Int.reduceNeg, Nat.reduceLT, Int.reduceToNat, Nat.reduceLeDiff, Nat.sub_zero])
      refine vsize_c g1 ?_
      rw [szN_eq]
      have b1 := Tb.small g1 ((k : Int) + 1)
      have b2 := need_le g1 k
      (simp (maxSteps := 1000000) (dsimp := false) (disch := (first | omega | (simp only [okR]; done) | (simp only [sizeR] <;> omega) | fail)) only [↓preR, postR, ↓w_join, Nat.reduceEqDiff, Nat.reduceAdd, Nat.reduceSub, Nat.reduceMul, Int.reduceNeg, Nat.reduceLT, Int.reduceToNat, Nat.reduceLeDiff, Nat.sub_zero])
      exact hag2 _ _ _ ⟨k + 1, by simp [Go.Proofs.Ytmkiaoddkodngaa.need], by omega, rfl, rfl⟩ (by omega)
    · obtain rfl : k = 5 := by omega
      have b1 := Tb.need g1 g2.len
      have b2 := need_le g1 5
      (simp (maxSteps := 1000000) (dsimp := false) (disch := (first | omega | (simp only [okR]; done) | (simp only [sizeR] <;> omega) | fail)) only [↓preR, postR, ↓w_join, Nat.reduceEqDiff, Nat.reduceAdd, Nat.reduceSub, Nat.reduceMul, Int.reduceNeg, Nat.reduceLT, Int.reduceToNat, Nat.reduceLeDiff, Nat.sub_zero])
      exact nxt _ _ _ _ _ g1 g2
  clear hJ nxt
  have hm := h5.obj3
  have hm1 := h5.obj2
  have hm2 := h5.obj1
  rcases hst with ⟨rfl, i1, i5, a1, a4, hli⟩ | ⟨ho, hli⟩
  · obtain ⟨b1, b2, b3, b4⟩ := hbd i1 i5
    by_cases c1 : ask = 1
    · subst c1
      (simp (maxSteps := 1000000) (dsimp := false) (disch := (first | omega | (simp only [okR]; done) | (simp only [sizeR] <;> omega) | fail)) only [↓preR, postR, ↓w_join, Nat.reduceEqDiff, Nat.reduceAdd, Nat.reduceSub, Nat.reduceMul, Int.reduceNeg, Nat.reduceLT, Int.reduceToNat, Nat.reduceLeDiff, Nat.sub_zero, hm, hm1, ar6_get, ar6_len])
      have h6 := h5.put2 (cs' := (ar6 nm).set I.toNat (.int .i64 (nm I.toNat + 1)))
      generalize AS.put s5 nb _ = s6 at h6 ⊢
      rw [ar6_set] at h6
      exact tail _ _ _ h6 hli
    by_cases c2 : ask = 2
    · subst c2
      (simp (maxSteps := 1000000) (dsimp := false) (disch := (first | omega | (simp only [okR]; done) | (simp only [sizeR] <;> omega) | fail)) only [↓preR, postR, ↓w_join, Nat.reduceEqDiff, Nat.reduceAdd, Nat.reduceSub, Nat.reduceMul, Int.reduceNeg, Nat.reduceLT, Int.reduceToNat, Nat.reduceLeDiff, Nat.sub_zero, hm, hm1, ar6_get, ar6_len])
      have h6 := h5.put2 (cs' := (ar6 nm).set I.toNat (.int .i64 (nm I.toNat - 1)))
      generalize AS.put s5 nb _ = s6 at h6 ⊢
      rw [ar6_set] at h6
      exact tail _ _ _ h6 hli
    by_cases c3 : ask = 3
    · subst c3
      (simp (maxSteps := 1000000) (dsimp := false) (disch := (first | omega | (simp only [okR]; done) | (simp only [sizeR] <;> omega) | fail)) only [↓preR, postR, ↓w_join, Nat.reduceEqDiff, Nat.reduceAdd, Nat.reduceSub, Nat.reduceMul, Int.reduceNeg, Nat.reduceLT, Int.reduceToNat, Nat.reduceLeDiff, Nat.sub_zero, hm, hm2, ar6_get, ar6_len])
      have h6 := h5.put1 (cs' := (ar6 us).set I.toNat (.int .i64 (us I.toNat + 1)))
      generalize AS.put s5 ub _ = s6 at h6 ⊢
      rw [ar6_set] at h6
      exact tail _ _ _ h6 hli
    · obtain rfl : ask = 4 := by omega
      (simp (maxSteps := 1000000) (dsimp := false) (disch := (first | omega | (simp only [okR]; done) | (simp only [sizeR] <;> omega) | fail)) only [↓preR, postR, ↓w_join, Nat.reduceEqDiff, Nat.reduceAdd, Nat.reduceSub, Nat.reduceMul, Int.reduceNeg, Nat.reduceLT, Int.reduceToNat, Nat.reduceLeDiff, Nat.sub_zero, hm, hm2, ar6_get, ar6_len])
      have h6 := h5.put1 (cs' := (ar6 us).set I.toNat (.int .i64 (us I.toNat - 1)))
      generalize AS.put s5 ub _ = s6 at h6 ⊢
      rw [ar6_set] at h6
      exact tail _ _ _ h6 hli
  · by_cases c0 : e = 0
    · obtain ho := ho.resolve_right (fun h => h c0)
      subst c0
      by_cases i1 : 1 ≤ I
      · by_cases i5 : I ≤ 5
        · have c1 : ¬ ask = 1 := by omega
          have c2 : ¬ ask = 2 := by omega
          have c3 : ¬ ask = 3 := by omega
          have c4 : ¬ ask = 4 := by omega
          (simp (maxSteps := 1000000) (dsimp := false) (disch := (first | omega | (simp only [okR]; done) | (simp only [sizeR] <;> omega) | fail)) only [↓preR, postR, ↓w_join, Nat.reduceEqDiff, Nat.reduceAdd, Nat.reduceSub, Nat.reduceMul, Int.reduceNeg, Nat.reduceLT, Int.reduceToNat, Nat.reduceLeDiff, Nat.sub_zero, hm, c1, c2, c3, c4])
          exact tail _ _ _ h5 hli
        · (simp (maxSteps := 1000000) (dsimp := false) (disch := (first | omega | (simp only [okR]; done) | (simp only [sizeR] <;> omega) | fail)) only [↓preR, postR, ↓w_join, Nat.reduceEqDiff, Nat.reduceAdd, Nat.reduceSub, Nat.reduceMul, Int.reduceNeg, Nat.reduceLT, Int.reduceToNat, Nat.reduceLeDiff, Nat.sub_zero, hm])
          exact tail _ _ _ h5 hli
      · (simp (maxSteps := 1000000) (dsimp := false) (disch := (first | omega | (simp only [okR]; done) | (simp only [sizeR] <;> omega) | fail)) only [↓preR, postR, ↓w_join, Nat.reduceEqDiff, Nat.reduceAdd, Nat.reduceSub, Nat.reduceMul, Int.reduceNeg, Nat.reduceLT, Int.reduceToNat, Nat.reduceLeDiff, Nat.sub_zero, hm])
        exact tail _ _ _ h5 hli
    · (simp (maxSteps := 1000000) (dsimp := false) (disch := (first | omega | (simp only [okR]; done) | (simp only [sizeR] <;> omega) | fail)) only [↓preR, postR, ↓w_join, Nat.reduceEqDiff, Nat.reduceAdd, Nat.reduceSub, Nat.reduceMul, Int.reduceNeg, Nat.reduceLT, Int.reduceToNat, Nat.reduceLeDiff, Nat.sub_zero, c0])
      exact tail _ _ _ h5 hli
theorem leaks_law {w : World} {v0 : Value} (A0 : OV (E.start w).c (shOf Try.prog 8 41) v0) : kCall Try.prog 6 [v0] (E.start w) fun v _ => v = .bool true := by
  obtain ⟨l, hl⟩ := ops_arg A0
  exact leaks_walk hl (Hs.start w)
end
end Go.Proofs.Ytmkiaoddkodngaa
