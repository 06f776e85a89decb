/- Nodes: the reference's calls that turn a node's bytes. Conditions: as each theorem says. -/
import Derived.Test.YtmkiaoddkodngaaInT
namespace Go.Proofs.Ytmkiaoddkodngaa
open E Go.Lib
set_option linter.unusedVariables false
set_option linter.unusedSimpArgs false
set_option maxHeartbeats 1000000
set_option maxRecDepth 20000

section
variable {σ σ' : AS} {X : Ce} {R : List Ck} {k : Value → AS → Prop} {t N m : Nat} {V V' : TV} {ask i at_ n : Int} {j : Nat} {data s : List UInt8} {d d' : RN} {x : RfX}
abbrev hasR (d : RN) (has : List Bool) : RN := ⟨d.kind, d.names, d.users, d.data, d.g, d.c, has, d.sp⟩
abbrev dataR (d : RN) (data : List UInt8) : RN := ⟨d.kind, d.names, d.users, data, d.g, d.c, d.has, d.sp⟩
/-- A node's row turns. -/
theorem RL_has (h : Hs σ X (RL t N x R)) (ho : x.ns[(i - 1).toNat]? = some (some d)) (has : List Bool) :
    Hs (σ.put d.g (.cells (has.map bl ++ d.sp))) X (RL t N (xset x (i - 1).toNat (some (hasR d has))) R) := by
  have hq := (List.getElem?_eq_some_iff.1 ho).1
  have h2 := h.putAt (cs' := has.map bl ++ d.sp) (2 + (i - 1).toNat) (RL_get ho)
  generalize AS.put σ d.g _ = s at h2 ⊢
  rw [show 2 + (i - 1).toNat = (i - 1).toNat + 1 + 1 from by omega, List.set_cons_succ, List.set_cons_succ] at h2
  refine RL_set ?_
  have e := R_things R x.ns (i - 1).toNat (some (hasR d has)) hq
  rw [← e]
  have e2 : flat rnC (none :: x.ns.set (i - 1).toNat (some (hasR d has))) x.sp = flat rnC (none :: x.ns) x.sp := by
    unfold flat
    rw [List.map_cons, List.map_cons, List.map_set, set_same (l := x.ns.map rnC) (by rw [List.getElem?_map, ho]; rfl)]
  rw [e2]
  exact h2
theorem RfOk.put (hx : RfOk x V) (d' : RN) (hok : ROk d') : RfOk (xset x (i - 1).toNat (some d')) (putV V i (some (rnv d'))) := hx.set _ (some d') (fun d hd => by injection hd with hd; subst hd; exact hok)
theorem R_self {o : Option RN} (ho : x.ns[(i - 1).toNat]? = some o) (d' : RN) : (xset x (i - 1).toNat (some d')).ns[(i - 1).toNat]? = some (some d') := by
  show (x.ns.set _ _)[_]? = _
  rw [List.getElem?_set_self (List.getElem?_eq_some_iff.1 ho).1]
/-- What is left of the parts, so many looked at. -/
def cutK (has : List Bool) (n : Int) (k : Nat) : List Bool := has.mapIdx fun p b => b && (decide (k ≤ p) || decide (64 * (p : Int) < n))
theorem cutK_len (has : List Bool) (n : Int) (k : Nat) : (cutK has n k).length = has.length := by simp [cutK]
theorem cutK_get (has : List Bool) (n : Int) (k p : Nat) : (cutK has n k)[p]? = has[p]?.map fun b => b && (decide (k ≤ p) || decide (64 * (p : Int) < n)) := by unfold cutK; rw [List.getElem?_mapIdx]
theorem cutK_zero (has : List Bool) (n : Int) : cutK has n 0 = has := by
  apply List.ext_getElem?
  intro p
  rw [cutK_get]
  cases has[p]? <;> simp
theorem cutK_false (has : List Bool) (n : Int) (k : Nat) (h : n ≤ 64 * (k : Int)) : (cutK has n k).set k false = cutK has n (k + 1) := by
  apply List.ext_getElem?
  intro p
  rw [List.getElem?_set, cutK_len, cutK_get, cutK_get]
  by_cases hp : k = p
  · subst hp
    rw [if_pos rfl]
    by_cases hl : k < has.length
    · rw [if_pos hl, List.getElem?_eq_getElem hl]
      have : ¬ 64 * (k : Int) < n := by omega
      simp [this]
    · rw [if_neg hl, List.getElem?_eq_none (by omega)]; rfl
  · rw [if_neg hp]
    have e : decide (k ≤ p) = decide (k + 1 ≤ p) := by rw [decide_eq_decide]; omega
    rw [e]
theorem cutK_keep (has : List Bool) (n : Int) (k : Nat) (h : 64 * (k : Int) < n) : cutK has n k = cutK has n (k + 1) := by
  apply List.ext_getElem?
  intro p
  rw [cutK_get, cutK_get]
  by_cases hp : k = p
  · subst hp
    simp [h]
  · have e : decide (k ≤ p) = decide (k + 1 ≤ p) := by rw [decide_eq_decide]; omega
    rw [e]
theorem cutK_all (has : List Bool) (n : Int) (h : has.length = 64) : cutK has n 64 = has.mapIdx fun p b => b && decide (64 * (p : Int) < n) := by
  apply List.ext_getElem?
  intro p
  rw [cutK_get, List.getElem?_mapIdx]
  by_cases hp : p < 64
  · have : ¬ 64 ≤ p := by omega
    simp [this]
  · rw [List.getElem?_eq_none (by omega)]; rfl
theorem rcut_c (h : Hs σ X (Rf t N V :: R)) (hk : ∀ σ', Hs σ' X (Rf t N (doM (7, i, at_, n, data) V 0).2 :: R) → k (.int .i64 (doM (7, i, at_, n, data) V 0).1.2.2) σ') :
    kCall Try.prog 48 [pp t, .int .i64 i, .int .i64 n] σ k := by
  obtain ⟨x, hx, h1⟩ := Rf.open h
  simp only [doM] at hk
  have hcap := hx.cap
  have hcl := hx.cl
  have hfew := hx.few
  unfold maxLen at hfew
  refine f48 ?_
  (try simp (maxSteps := 1000000) (dsimp := false) (disch := (first | omega | (simp only [okR]; done) | (simp only [sizeR] <;> omega) | fail)) only [↓preR, postR, ↓w_join, Nat.reduceEqDiff, Nat.reduceAdd, Nat.reduceSub, Nat.reduceMul, Int.reduceNeg, Nat.reduceLT, Int.reduceToNat, Nat.reduceLeDiff, Nat.sub_zero, F48])
  refine ris_c h1 hx ?_
  cases hv : atV V i with
  | none =>
    rw [hv] at hk
    (try simp (maxSteps := 1000000) (dsimp := false) (disch := (first | omega | (simp only [okR]; done) | (simp only [sizeR] <;> omega) | fail)) only [↓preR, postR, ↓w_join, Nat.reduceEqDiff, Nat.reduceAdd, Nat.reduceSub, Nat.reduceMul, Int.reduceNeg, Nat.reduceLT, Int.reduceToNat, Nat.reduceLeDiff, Nat.sub_zero, Option.isSome_none])
    exact hk _ h
  | some v =>
    rw [hv] at hk
    obtain ⟨d, ho, rfl, hok, i1, i2, c0, c1, c2, c3, c4⟩ := R_node hx hv
    have hdl := hok.data
    by_cases n0 : n < 0
    · simp only [n0, if_true] at hk
      (simp (maxSteps := 1000000) (dsimp := false) (disch := (first | omega | (simp only [okR]; done) | (simp only [sizeR] <;> omega) | fail)) only [↓preR, postR, ↓w_join, Nat.reduceEqDiff, Nat.reduceAdd, Nat.reduceSub, Nat.reduceMul, Int.reduceNeg, Nat.reduceLT, Int.reduceToNat, Nat.reduceLeDiff, Nat.sub_zero, Option.isSome_some])
      exact hk _ h
    by_cases n4 : 4096 < n
    · simp only [n0, n4, if_true, if_false] at hk
      (simp (maxSteps := 1000000) (dsimp := false) (disch := (first | omega | (simp only [okR]; done) | (simp only [sizeR] <;> omega) | fail)) only [↓preR, postR, ↓w_join, Nat.reduceEqDiff, Nat.reduceAdd, Nat.reduceSub, Nat.reduceMul, Int.reduceNeg, Nat.reduceLT, Int.reduceToNat, Nat.reduceLeDiff, Nat.sub_zero, Option.isSome_some])
      exact hk _ h
    simp only [n0, n4, if_false] at hk
    (try simp (maxSteps := 1000000) (dsimp := false) (disch := (first | omega | (simp only [okR]; done) | (simp only [sizeR] <;> omega) | fail)) only [↓preR, postR, ↓w_stop, Nat.reduceEqDiff, Nat.reduceAdd, Nat.reduceSub, Nat.reduceMul, Int.reduceNeg, Nat.reduceLT, Int.reduceToNat, Nat.reduceLeDiff, Nat.sub_zero, Option.isSome_some])
    refine join_now ?_
    (try simp (maxSteps := 1000000) (dsimp := false) (disch := (first | omega | (simp only [okR]; done) | (simp only [sizeR] <;> omega) | fail)) only [↓preR, postR, ↓w_stop, Nat.reduceEqDiff, Nat.reduceAdd, Nat.reduceSub, Nat.reduceMul, Int.reduceNeg, Nat.reduceLT, Int.reduceToNat, Nat.reduceLeDiff, Nat.sub_zero])
    refine join_now ?_
    (try simp (maxSteps := 1000000) (dsimp := false) (disch := (first | omega | (simp only [okR]; done) | (simp only [sizeR] <;> omega) | fail)) only [↓preR, postR, ↓w_stop, Nat.reduceEqDiff, Nat.reduceAdd, Nat.reduceSub, Nat.reduceMul, Int.reduceNeg, Nat.reduceLT, Int.reduceToNat, Nat.reduceLeDiff, Nat.sub_zero, h1.obj, h1.obj1, c3])
    refine join_by fun J hJ => ?_
    have tail : ∀ s' w, Hs s' X (RL t N x R) → w.take n.toNat = (d.data ++ List.replicate (n.toNat - d.data.length) 0).take n.toNat → n.toNat ≤ w.length → w.length ≤ 5000 → J [.string (bs w)] s' := by
      intro s' w g1 hw hwl hws
      refine hJ _ _ ?_
      clear hJ h1 h
      have hnn : n ≤ (w.length : Int) := by omega
      (try simp (maxSteps := 1000000) (dsimp := false) (disch := (first | omega | (simp only [okR]; done) | (simp only [sizeR] <;> omega) | fail)) only [↓preR, postR, ↓w_stop, Nat.reduceEqDiff, Nat.reduceAdd, Nat.reduceSub, Nat.reduceMul, Int.reduceNeg, Nat.reduceLT, Int.reduceToNat, Nat.reduceLeDiff, Nat.sub_zero, g1.obj, g1.obj1, flat_lenR])
      refine join_now ?_
      rw [hw]
      generalize hD : (d.data ++ List.replicate (n.toNat - d.data.length) (0 : UInt8)).take n.toNat = D at hk ⊢
      have hDl : D.length ≤ 4096 := by rw [← hD, List.length_take]; omega
      have g2 := RL_cell (d' := dataR d D) (v := .string (bs D)) g1 ho i1 (jj := 3) (by decide) rfl rfl rfl rfl
      have hok2 : ROk (dataR d D) := ⟨hok.has, hok.cap, hok.few, hok.kind, hDl⟩
      have hx2 := hx.put (i := i) (dataR d D) hok2
      have iV : i ≤ V.length := by rw [R_len hx]; exact i2
      generalize AS.put s' x.lb _ = s2 at g2 ⊢
      have hhl := hok.has
      refine loop_inv (fun nn xs s => ∃ (kk : Nat) (x' : RfX), xs = [.int .i64 (kk : Nat)] ∧ kk ≤ 64 ∧ Hs s X (RL t N x' R) ∧ RfOk x' (putV V i (some (rnv (hasR (dataR d D) (cutK d.has n kk))))) ∧ x'.ns[(i - 1).toNat]? = some (some (hasR (dataR d D) (cutK d.has n kk))) ∧ nn = 64 - kk) _
        ⟨0, _, rfl, by omega, g2, by rw [cutK_zero]; exact hx2, by rw [cutK_zero]; exact R_self ho _, rfl⟩ ?_
      clear g2 hx2 g1 hw hwl hws hnn
      rintro _ _ s3 again ⟨kk, x', rfl, hkk, g3, hx3, ho3, rfl⟩ hag
      have hv3 : atV (putV V i (some (rnv (hasR (dataR d D) (cutK d.has n kk))))) i = some (rnv (hasR (dataR d D) (cutK d.has n kk))) := by rw [atV_put _ i1 iV, if_pos rfl]
      by_cases hk64 : kk < 64
      · by_cases hge : n ≤ 64 * (kk : Int)
        · obtain ⟨d0, ho', hd0, hok3, _, i3, e0, e1, e2, e3, e4⟩ := R_node hx3 hv3
          have hd1 := Option.some.inj (Option.some.inj (ho3.symm.trans ho'))
          subst hd1
          have e4 : _ = some (Value.slice (some ⟨d.g, 0, none⟩) 64 d.c) := e4
          have hb := g3.celAt (2 + (i - 1).toNat) (RL_get ho3)
          have hb : s3.m d.g = some (.cells ((cutK d.has n kk).map bl ++ d.sp)) := hb
          have hcl3 := hx3.cl
          have hfew3 := hx3.few
          have hcap3 := hx3.cap
          unfold maxLen at hfew3
          have hll : ((cutK d.has n kk).map bl ++ d.sp).length = 64 + d.sp.length := by rw [List.length_append, List.length_map, cutK_len, hhl]
          have hset : ((cutK d.has n kk).map bl ++ d.sp).set kk (.bool false) = (cutK d.has n (kk + 1)).map bl ++ d.sp := by
            rw [List.set_append_left _ _ (by rw [List.length_map, cutK_len]; omega), ← cutK_false _ _ _ hge, List.map_set]
          (simp (maxSteps := 1000000) (dsimp := false) (disch := (first | omega | (simp only [okR]; done) | (simp only [sizeR] <;> omega) | fail)) only [↓preR, postR, ↓w_join, Nat.reduceEqDiff, Nat.reduceAdd, Nat.reduceSub, Nat.reduceMul, Int.reduceNeg, Nat.reduceLT, Int.reduceToNat, Nat.reduceLeDiff, Nat.sub_zero, g3.obj, g3.obj1, e4, hb, hll, hset])
          have g4 := RL_has g3 ho3 (cutK d.has n (kk + 1))
          refine hag _ _ _ ⟨kk + 1, _, by simp, by omega, g4, ?_, R_self ho3 _, rfl⟩ (by omega)
          have := hx3.put (i := i) (hasR (dataR d D) (cutK d.has n (kk + 1))) ⟨by show (cutK d.has n (kk + 1)).length = 64; rw [cutK_len]; exact hhl, hok.cap, hok.few, hok.kind, hDl⟩
          rw [putV_putV] at this
          exact this
        · (simp (maxSteps := 1000000) (dsimp := false) (disch := (first | omega | (simp only [okR]; done) | (simp only [sizeR] <;> omega) | fail)) only [↓preR, postR, ↓w_join, Nat.reduceEqDiff, Nat.reduceAdd, Nat.reduceSub, Nat.reduceMul, Int.reduceNeg, Nat.reduceLT, Int.reduceToNat, Nat.reduceLeDiff, Nat.sub_zero])
          rw [cutK_keep _ _ _ (by omega)] at hx3 ho3
          exact hag _ _ _ ⟨kk + 1, _, by simp, by omega, g3, hx3, ho3, rfl⟩ (by omega)
      · obtain rfl : kk = 64 := by omega
        (simp (maxSteps := 1000000) (dsimp := false) (disch := (first | omega | (simp only [okR]; done) | (simp only [sizeR] <;> omega) | fail)) only [↓preR, postR, ↓w_join, Nat.reduceEqDiff, Nat.reduceAdd, Nat.reduceSub, Nat.reduceMul, Int.reduceNeg, Nat.reduceLT, Int.reduceToNat, Nat.reduceLeDiff, Nat.sub_zero])
        rw [cutK_all _ _ hhl] at hx3
        subst hD
        exact hk _ (Rf.close g3 hx3)
    clear hJ
    by_cases hlt : (d.data.length : Int) < n
    · have ez : (n - (d.data.length : Int)).toNat = n.toNat - d.data.length := by omega
      (simp (maxSteps := 1000000) (dsimp := false) (disch := (first | omega | (simp only [okR]; done) | (simp only [sizeR] <;> omega) | fail)) only [↓preR, postR, ↓w_join, Nat.reduceEqDiff, Nat.reduceAdd, Nat.reduceSub, Nat.reduceMul, Int.reduceNeg, Nat.reduceLT, Int.reduceToNat, Nat.reduceLeDiff, Nat.sub_zero, ez])
      refine cvb_all (l := List.replicate (n.toNat - d.data.length) 0) (new_eq_.trans (by simp)) (by simp) ?_
      (simp (maxSteps := 1000000) (dsimp := false) (disch := (first | omega | (simp only [okR]; done) | (simp only [sizeR] <;> omega) | fail)) only [↓preR, postR, ↓w_join, Nat.reduceEqDiff, Nat.reduceAdd, Nat.reduceSub, Nat.reduceMul, Int.reduceNeg, Nat.reduceLT, Int.reduceToNat, Nat.reduceLeDiff, Nat.sub_zero])
      exact tail _ _ (h1.junk _) rfl (by simp; omega) (by simp; omega)
    · (simp (maxSteps := 1000000) (dsimp := false) (disch := (first | omega | (simp only [okR]; done) | (simp only [sizeR] <;> omega) | fail)) only [↓preR, postR, ↓w_join, Nat.reduceEqDiff, Nat.reduceAdd, Nat.reduceSub, Nat.reduceMul, Int.reduceNeg, Nat.reduceLT, Int.reduceToNat, Nat.reduceLeDiff, Nat.sub_zero])
      exact tail _ _ h1 (by rw [show n.toNat - d.data.length = 0 from by omega]; simp) (by omega) (by omega)
theorem hasW_true {has : List Bool} {a m : Nat} (h : (hasW has a m)[(a + m) / 64]? = some true) : hasW has a (m + 1) = hasW has a m := by
  rw [hasW_succ]; exact set_same h
theorem rwrite_c (h : Hs σ X (Rf t N V :: R)) (hN : N ≤ 4096) (hu : used V ≤ N) (hdl : data.length ≤ 1000000000) (hat : at_ ≤ 9223372036854775807)
    (hk : ∀ m σ', MOk V N (6, i, at_, n, data) m → Hs σ' X (Rf t N (doM (6, i, at_, n, data) V m).2 :: R) → k (.tuple #[.int .i64 (doM (6, i, at_, n, data) V m).1.1, .int .i64 (doM (6, i, at_, n, data) V m).1.2.2]) σ') :
    kCall Try.prog 47 [pp t, .int .i64 i, .int .i64 at_, .string (bs data)] σ k := by
  obtain ⟨x, hx, h1⟩ := Rf.open h
  unfold MOk at hk
  simp only [doM] at hk
  have hcap := hx.cap
  have hcl := hx.cl
  have hfew := hx.few
  unfold maxLen at hfew
  refine f47 ?_
  (try simp (maxSteps := 1000000) (dsimp := false) (disch := (first | omega | (simp only [okR]; done) | (simp only [sizeR] <;> omega) | fail)) only [↓preR, postR, ↓w_join, Nat.reduceEqDiff, Nat.reduceAdd, Nat.reduceSub, Nat.reduceMul, Int.reduceNeg, Nat.reduceLT, Int.reduceToNat, Nat.reduceLeDiff, Nat.sub_zero, F47])
  refine ris_c h1 hx ?_
  cases hv : atV V i with
  | none =>
    rw [hv] at hk
    (try simp (maxSteps := 1000000) (dsimp := false) (disch := (first | omega | (simp only [okR]; done) | (simp only [sizeR] <;> omega) | fail)) only [↓preR, postR, ↓w_join, Nat.reduceEqDiff, Nat.reduceAdd, Nat.reduceSub, Nat.reduceMul, Int.reduceNeg, Nat.reduceLT, Int.reduceToNat, Nat.reduceLeDiff, Nat.sub_zero, Option.isSome_none])
    exact hk 0 _ (fun d hd => by cases hd) h
  | some v =>
    rw [hv] at hk
    obtain ⟨d, ho, rfl, hok, i1, i2, c0, c1, c2, c3, c4⟩ := R_node hx hv
    have hddl := hok.data
    by_cases a0 : at_ < 0
    · simp only [a0, if_true] at hk
      (simp (maxSteps := 1000000) (dsimp := false) (disch := (first | omega | (simp only [okR]; done) | (simp only [sizeR] <;> omega) | fail)) only [↓preR, postR, ↓w_join, Nat.reduceEqDiff, Nat.reduceAdd, Nat.reduceSub, Nat.reduceMul, Int.reduceNeg, Nat.reduceLT, Int.reduceToNat, Nat.reduceLeDiff, Nat.sub_zero, Option.isSome_some])
      exact hk 0 _ (fun d _ _ h => by omega) h
    simp only [a0, if_false] at hk
    obtain ⟨a, rfl⟩ : ∃ a : Nat, at_ = a := ⟨at_.toNat, by omega⟩
    have iV : i ≤ V.length := by rw [R_len hx]; exact i2
    (try simp (maxSteps := 1000000) (dsimp := false) (disch := (first | omega | (simp only [okR]; done) | (simp only [sizeR] <;> omega) | fail)) only [↓preR, postR, ↓w_stop, Nat.reduceEqDiff, Nat.reduceAdd, Nat.reduceSub, Nat.reduceMul, Int.reduceNeg, Nat.reduceLT, Int.reduceToNat, Nat.reduceLeDiff, Nat.sub_zero, Option.isSome_some])
    refine join_now ?_
    (try simp (maxSteps := 1000000) (dsimp := false) (disch := (first | omega | (simp only [okR]; done) | (simp only [sizeR] <;> omega) | fail)) only [↓preR, postR, ↓w_stop, Nat.reduceEqDiff, Nat.reduceAdd, Nat.reduceSub, Nat.reduceMul, Int.reduceNeg, Nat.reduceLT, Int.reduceToNat, Nat.reduceLeDiff, Nat.sub_zero, h1.obj])
    refine rused_c h1 hx ?_
    have eN : (N : Int) - (used V : Int) = ((N - used V : Nat) : Int) := by omega
    (try simp (maxSteps := 1000000) (dsimp := false) (disch := (first | omega | (simp only [okR]; done) | (simp only [sizeR] <;> omega) | fail)) only [↓preR, postR, ↓w_stop, Nat.reduceEqDiff, Nat.reduceAdd, Nat.reduceSub, Nat.reduceMul, Int.reduceNeg, Nat.reduceLT, Int.reduceToNat, Nat.reduceLeDiff, Nat.sub_zero, h1.obj, eN])
    generalize hfr : N - used V = fr at hk ⊢
    have hfr4 : fr ≤ 4096 := by omega
    have hhl := hok.has
    have ea : ((a : Int)).toNat = a := by omega
    simp only [ea] at hk
    have e4096 : (4096 : Int) ≤ (a : Int) ↔ 4096 ≤ a := by omega
    refine join_by fun J hJ => ?_
    have tail : ∀ (s' : AS) (many : Nat) (why : Int) (x' : RfX), Hs s' X (RL t N x' R) → RfOk x' (putV V i (some (rnv (hasR d (hasW d.has a many))))) → x'.ns[(i - 1).toNat]? = some (some (hasR d (hasW d.has a many))) →
        IsMany d.has fr a data.length many → (many = 0 → why = if data = [] then 0 else if (4096 : Int) ≤ (a : Int) then 3 else 20) → J [.int .i64 (many : Nat), .int .i64 why] s' := by
      intro s' many why x' g3 hx3 ho3 hm hw
      refine hJ _ _ ?_
      clear hJ h1 h
      have hm' : ∀ e, some (rnv d) = some e → True → True → IsMany e.has fr a data.length many := fun e he _ _ => by rw [← Option.some.inj he]; exact hm
      by_cases h0 : many = 0
      · subst h0
        (simp (maxSteps := 1000000) (dsimp := false) (disch := (first | omega | (simp only [okR]; done) | (simp only [sizeR] <;> omega) | fail)) only [↓preR, postR, ↓w_join, Nat.reduceEqDiff, Nat.reduceAdd, Nat.reduceSub, Nat.reduceMul, Int.reduceNeg, Nat.reduceLT, Int.reduceToNat, Nat.reduceLeDiff, Nat.sub_zero])
        have := hk 0 s' (fun e he _ => by rw [← Option.some.inj he]; exact fun _ => hm)
        simp only [if_true] at this
        rw [hw rfl]
        refine this (Rf.close g3 ?_)
        have e0 : putV V i (some (rnv (hasR d (hasW d.has a 0)))) = V := by
          rw [hasW_zero]
          exact set_same (R_at hx ho)
        rw [e0] at hx3
        exact hx3
      · have hk' := fun s => hk many s (fun e he _ => by rw [← Option.some.inj he]; exact fun _ => hm)
        simp only [h0, if_false] at hk'
        have hml := hm.1
        have hmf : a + many ≤ 4096 := by rcases hm.2.1.1 with h | h <;> omega
        have hv3 : atV (putV V i (some (rnv (hasR d (hasW d.has a many))))) i = some (rnv (hasR d (hasW d.has a many))) := by rw [atV_put _ i1 iV, if_pos rfl]
        obtain ⟨d0, ho', hd0, hok3, _, i3, e0, e1, e2, e3, e4⟩ := R_node hx3 hv3
        have hd1 := Option.some.inj (Option.some.inj (ho3.symm.trans ho'))
        subst hd1
        have e3 : _ = some (Value.string (bs d.data)) := e3
        have hcap3 := hx3.cap
        have hcl3 := hx3.cl
        have hfew3 := hx3.few
        unfold maxLen at hfew3
        (try simp (maxSteps := 1000000) (dsimp := false) (disch := (first | omega | (simp only [okR]; done) | (simp only [sizeR] <;> omega) | fail)) only [↓preR, postR, ↓w_stop, Nat.reduceEqDiff, Nat.reduceAdd, Nat.reduceSub, Nat.reduceMul, Int.reduceNeg, Nat.reduceLT, Int.reduceToNat, Nat.reduceLeDiff, Nat.sub_zero])
        refine join_now ?_
        (try simp (maxSteps := 1000000) (dsimp := false) (disch := (first | omega | (simp only [okR]; done) | (simp only [sizeR] <;> omega) | fail)) only [↓preR, postR, ↓w_stop, Nat.reduceEqDiff, Nat.reduceAdd, Nat.reduceSub, Nat.reduceMul, Int.reduceNeg, Nat.reduceLT, Int.reduceToNat, Nat.reduceLeDiff, Nat.sub_zero, g3.obj, g3.obj1, e3])
        refine join_by fun J5 hJ5 => ?_
        have tail5 : ∀ (s2 : AS) (w : List UInt8), Hs s2 X (RL t N x' R) → w = d.data ++ List.replicate (a + many - d.data.length) 0 → J5 [.string (bs w)] s2 := by
          intro s2 w g5 hwe
          refine hJ5 _ _ ?_
          clear hJ5 g3
          have hwl : a + many ≤ w.length := by rw [hwe, List.length_append, List.length_replicate]; omega
          have hwu : w.length ≤ 4096 := by rw [hwe, List.length_append, List.length_replicate]; omega
          have e7 : ∀ z : Nat, w.length ≤ z → (w.drop (a + many)).take (z - (a + many)) = w.drop (a + many) := fun z hz => List.take_of_length_le (by rw [List.length_drop]; omega)
          (simp (maxSteps := 1000000) (dsimp := false) (disch := (first | omega | (simp only [okR]; done) | (simp only [sizeR] <;> omega) | fail)) only [↓preR, postR, ↓w_join, Nat.reduceEqDiff, Nat.reduceAdd, Nat.reduceSub, Nat.reduceMul, Int.reduceNeg, Nat.reduceLT, Int.reduceToNat, Nat.reduceLeDiff, Nat.sub_zero, g5.obj, g5.obj1, flat_lenR])
          have hD : w.take a ++ data.take many ++ (w.drop (a + many)).take (w.length - (a + many)) = dataW d.data a many data := by
            rw [e7 _ (Nat.le_refl _)]
            unfold dataW
            rw [if_neg h0, hwe]
          rw [hD]
          have hDl : (dataW d.data a many data).length ≤ 4096 := by
            rw [dataW_len _ _ _ _ hml, if_neg h0]; omega
          have g6 := RL_cell (d' := dataR (hasR d (hasW d.has a many)) (dataW d.data a many data)) (v := .string (bs (dataW d.data a many data))) g5 ho3 i1 (jj := 3) (by decide) rfl rfl rfl rfl
          have hx6 := hx3.put (i := i) (dataR (hasR d (hasW d.has a many)) (dataW d.data a many data)) ⟨hok3.has, hok3.cap, hok3.few, hok3.kind, hDl⟩
          rw [putV_putV] at hx6
          exact hk' _ (Rf.close g6 hx6)
        clear hJ5
        by_cases hlt : d.data.length < a + many
        · have ez : ((a : Int) + (many : Int) - (d.data.length : Int)).toNat = a + many - d.data.length := by omega
          (simp (maxSteps := 1000000) (dsimp := false) (disch := (first | omega | (simp only [okR]; done) | (simp only [sizeR] <;> omega) | fail)) only [↓preR, postR, ↓w_join, Nat.reduceEqDiff, Nat.reduceAdd, Nat.reduceSub, Nat.reduceMul, Int.reduceNeg, Nat.reduceLT, Int.reduceToNat, Nat.reduceLeDiff, Nat.sub_zero, ez])
          refine cvb_all (l := List.replicate (a + many - d.data.length) 0) (new_eq_.trans (by simp)) (by simp) ?_
          (simp (maxSteps := 1000000) (dsimp := false) (disch := (first | omega | (simp only [okR]; done) | (simp only [sizeR] <;> omega) | fail)) only [↓preR, postR, ↓w_join, Nat.reduceEqDiff, Nat.reduceAdd, Nat.reduceSub, Nat.reduceMul, Int.reduceNeg, Nat.reduceLT, Int.reduceToNat, Nat.reduceLeDiff, Nat.sub_zero])
          exact tail5 _ _ (g3.junk _) rfl
        · (simp (maxSteps := 1000000) (dsimp := false) (disch := (first | omega | (simp only [okR]; done) | (simp only [sizeR] <;> omega) | fail)) only [↓preR, postR, ↓w_join, Nat.reduceEqDiff, Nat.reduceAdd, Nat.reduceSub, Nat.reduceMul, Int.reduceNeg, Nat.reduceLT, Int.reduceToNat, Nat.reduceLeDiff, Nat.sub_zero])
          exact tail5 _ _ g3 (by rw [show a + many - d.data.length = 0 from by omega]; simp)
    clear hJ
    have hcw : ∀ m, (hasW d.has a m).count true ≤ 64 := fun m => hasW_count _ _ _ hhl
    have hst : RfOk x (putV V i (some (rnv (hasR d (hasW d.has a 0))))) := by
      have e0 : putV V i (some (rnv (hasR d (hasW d.has a 0)))) = V := by
        rw [hasW_zero]
        exact set_same (R_at hx ho)
      rw [e0]; exact hx
    refine loop_inv (fun nn xs s => ∃ (free many : Nat) (why : Int) (x' : RfX), xs = [.int .i64 (free : Nat), .int .i64 (many : Nat), .int .i64 why] ∧ Hs s X (RL t N x' R) ∧ RfOk x' (putV V i (some (rnv (hasR d (hasW d.has a many))))) ∧ x'.ns[(i - 1).toNat]? = some (some (hasR d (hasW d.has a many))) ∧
        free + (hasW d.has a many).count true = fr + d.has.count true ∧ many ≤ data.length ∧ Fits d.has fr a many ∧
        ((why = 0 ∧ nn = data.length - many + 1) ∨ (why ≠ 0 ∧ many < data.length ∧ ¬ Fits d.has fr a (many + 1) ∧ why = (if 4096 ≤ (a : Int) + (many : Int) then 3 else 20) ∧ nn = 0))) _
      ⟨fr, 0, 0, x, rfl, h1, hst, by rw [hasW_zero]; exact ho, by rw [hasW_zero], Nat.zero_le _, Fits.none _ _ _, .inl ⟨rfl, rfl⟩⟩ ?_
    clear h1 h hst
    rintro nn _ s3 again ⟨free, many, why, x', rfl, g3, hx3, ho3, hfree, hml, hfit, hwhy⟩ hag
    rcases hwhy with ⟨rfl, rfl⟩ | ⟨w0, hlt, hnf, hwe, rfl⟩
    rotate_left
    · (simp (maxSteps := 1000000) (dsimp := false) (disch := (first | omega | (simp only [okR]; done) | (simp only [sizeR] <;> omega) | fail)) only [↓preR, postR, ↓w_join, Nat.reduceEqDiff, Nat.reduceAdd, Nat.reduceSub, Nat.reduceMul, Int.reduceNeg, Nat.reduceLT, Int.reduceToNat, Nat.reduceLeDiff, Nat.sub_zero, w0])
      refine tail _ _ _ _ g3 hx3 ho3 ⟨hml, hfit, .inr hnf⟩ (fun h0 => ?_)
      subst h0
      have : data ≠ [] := by rintro rfl; simp at hlt
      rw [if_neg this, hwe]
      simp
    by_cases hlt : many < data.length
    rotate_left
    · obtain hml : many = data.length := by omega
      (simp (maxSteps := 1000000) (dsimp := false) (disch := (first | omega | (simp only [okR]; done) | (simp only [sizeR] <;> omega) | fail)) only [↓preR, postR, ↓w_join, Nat.reduceEqDiff, Nat.reduceAdd, Nat.reduceSub, Nat.reduceMul, Int.reduceNeg, Nat.reduceLT, Int.reduceToNat, Nat.reduceLeDiff, Nat.sub_zero])
      refine tail _ _ _ _ g3 hx3 ho3 ⟨by omega, hfit, .inl hml⟩ (fun h0 => ?_)
      have : data = [] := List.eq_nil_of_length_eq_zero (by omega)
      rw [if_pos this]
    clear tail
    by_cases hbig : 4096 ≤ (a : Int) + (many : Int)
    · (simp (maxSteps := 1000000) (dsimp := false) (disch := (first | omega | (simp only [okR]; done) | (simp only [sizeR] <;> omega) | fail)) only [↓preR, postR, ↓w_join, Nat.reduceEqDiff, Nat.reduceAdd, Nat.reduceSub, Nat.reduceMul, Int.reduceNeg, Nat.reduceLT, Int.reduceToNat, Nat.reduceLeDiff, Nat.sub_zero])
      refine hag 0 _ _ ⟨free, many, 3, x', rfl, g3, hx3, ho3, hfree, hml, hfit, .inr ⟨by decide, hlt, fun hf => ?_, by rw [if_pos hbig], rfl⟩⟩ (by omega)
      rcases hf.1 with h | h <;> omega
    have hv3 : atV (putV V i (some (rnv (hasR d (hasW d.has a many))))) i = some (rnv (hasR d (hasW d.has a many))) := by rw [atV_put _ i1 iV, if_pos rfl]
    obtain ⟨d0, ho', hd0, hok3, _, i3, e0, e1, e2, e3, e4⟩ := R_node hx3 hv3
    have hd1 := Option.some.inj (Option.some.inj (ho3.symm.trans ho'))
    subst hd1
    have e4 : _ = some (Value.slice (some ⟨d.g, 0, none⟩) 64 d.c) := e4
    have hb := g3.celAt (2 + (i - 1).toNat) (RL_get ho3)
    have hb : s3.m d.g = some (.cells ((hasW d.has a many).map bl ++ d.sp)) := hb
    have hcl3 := hx3.cl
    have hfew3 := hx3.few
    have hcap3 := hx3.cap
    unfold maxLen at hfew3
    have hll : ((hasW d.has a many).map bl ++ d.sp).length = 64 + d.sp.length := by rw [List.length_append, List.length_map, hasW_len, hhl]
    have hp64 : (a + many) / 64 < 64 := by omega
    have hpl : (a + many) / 64 < (hasW d.has a many).length := by rw [hasW_len, hhl]; exact hp64
    have hpx : (((a : Int) + (many : Int)) / 64).toNat = (a + many) / 64 := by omega
    have hg : ((hasW d.has a many).map bl ++ d.sp)[(a + many) / 64]? = some (.bool ((hasW d.has a many)[(a + many) / 64])) := by
      rw [List.getElem?_append_left (by rw [List.length_map]; exact hpl), List.getElem?_map, List.getElem?_eq_getElem hpl]; rfl
    have hgb : (hasW d.has a many)[(a + many) / 64]? = some ((hasW d.has a many)[(a + many) / 64]) := List.getElem?_eq_getElem hpl
    generalize (hasW d.has a many)[(a + many) / 64] = b at hg hgb
    have hc64 := hcw many
    have hd64 : d.has.count true ≤ 64 := by rw [← hhl]; exact List.count_le_length
    have hfb : free ≤ 4160 := by omega
    cases b with
    | true =>
      (simp (maxSteps := 1000000) (dsimp := false) (disch := (first | omega | (simp only [okR]; done) | (simp only [sizeR] <;> omega) | fail)) only [↓preR, postR, ↓w_join, Nat.reduceEqDiff, Nat.reduceAdd, Nat.reduceSub, Nat.reduceMul, Int.reduceNeg, Nat.reduceLT, Int.reduceToNat, Nat.reduceLeDiff, Nat.sub_zero, g3.obj, g3.obj1, e4, hb, hll, hpx, hg])
      have e := hasW_true hgb
      refine hag _ _ _ ⟨free, many + 1, 0, x', by simp, g3, by rw [e]; exact hx3, by rw [e]; exact ho3, by rw [e]; exact hfree, by omega, ⟨.inr (by omega), by rw [e]; exact hfit.2⟩, .inl ⟨rfl, rfl⟩⟩ (by omega)
    | false =>
      have hcs := count_set_true (hasW d.has a many) _ hpl
      rw [hgb, ← hasW_succ] at hcs
      by_cases f0 : free = 0
      · subst f0
        (simp (maxSteps := 1000000) (dsimp := false) (disch := (first | omega | (simp only [okR]; done) | (simp only [sizeR] <;> omega) | fail)) only [↓preR, postR, ↓w_join, Nat.reduceEqDiff, Nat.reduceAdd, Nat.reduceSub, Nat.reduceMul, Int.reduceNeg, Nat.reduceLT, Int.reduceToNat, Nat.reduceLeDiff, Nat.sub_zero, g3.obj, g3.obj1, e4, hb, hll, hpx, hg])
        refine hag 0 _ _ ⟨0, many, 20, x', rfl, g3, hx3, ho3, hfree, hml, hfit, .inr ⟨by decide, hlt, full_many hhl hgb (by omega), by rw [if_neg hbig], rfl⟩⟩ (by omega)
      · (simp (maxSteps := 1000000) (dsimp := false) (disch := (first | omega | (simp only [okR]; done) | (simp only [sizeR] <;> omega) | fail)) only [↓preR, postR, ↓w_join, Nat.reduceEqDiff, Nat.reduceAdd, Nat.reduceSub, Nat.reduceMul, Int.reduceNeg, Nat.reduceLT, Int.reduceToNat, Nat.reduceLeDiff, Nat.sub_zero, g3.obj, g3.obj1, e4, hb, hll, hpx, hg, f0])
        have hset : ((hasW d.has a many).map bl ++ d.sp).set ((a + many) / 64) (.bool true) = (hasW d.has a (many + 1)).map bl ++ d.sp := by
          rw [List.set_append_left _ _ (by rw [List.length_map]; exact hpl), hasW_succ, List.map_set]
        rw [hset]
        have g4 := RL_has g3 ho3 (hasW d.has a (many + 1))
        have hx4 := hx3.put (i := i) (hasR d (hasW d.has a (many + 1))) ⟨by show (hasW d.has a (many + 1)).length = 64; rw [hasW_len]; exact hhl, hok.cap, hok.few, hok.kind, hok.data⟩
        rw [putV_putV] at hx4
        have hc2 : (hasW d.has a (many + 1)).count true = (hasW d.has a many).count true + 1 := by rw [hcs]; rfl
        refine hag (data.length - (many + 1) + 1) _ _ ⟨free - 1, many + 1, 0, _, by simp; omega, g4, hx4, R_self ho3 _, by omega, by omega, ⟨.inr (by omega), by omega⟩, .inl ⟨rfl, rfl⟩⟩ (by omega)
end
end Go.Proofs.Ytmkiaoddkodngaa
