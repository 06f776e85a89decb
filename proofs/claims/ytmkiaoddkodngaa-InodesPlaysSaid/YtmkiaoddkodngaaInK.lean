/- Nodes: calls whose answer is known, the chapter's examples, a nil table. Conditions: as each theorem says. -/
import Derived.Test.YtmkiaoddkodngaaInX
namespace Go.Proofs.Ytmkiaoddkodngaa
open E Go.Lib
set_option linter.unusedVariables false
set_option linter.unusedSimpArgs false
set_option maxHeartbeats 1000000
set_option maxRecDepth 20000

section
variable {σ σ' : AS} {X : Ce} {R : List Ck} {k : Value → AS → Prop} {t nb sp N m : Nat} {V V' : TV} {i at_ n a e : Int} {j : Nat} {data s : List UInt8} {d : NV}
theorem emake (h : Hs σ X (Tb t N V :: R)) (hr : doM (0, 0, 0, n, []) V 0 = ((a, s, e), V')) (hk : ∀ σ', Hs σ' X (Tb t N V' :: R) → k (.tuple #[.int .i64 a, .int .i64 e]) σ') :
    kCall Try.prog 11 [pp t, .int .i64 n] σ k :=
  vmake_c h fun σ' h' => by rw [hr] at h' ⊢; exact hk σ' h'
theorem etie (h : Hs σ X (Tb t N V :: R)) (hm : ∀ d, atV V i = some d → -1000000 ≤ d.names ∧ d.names ≤ 1000000) (hr : doM (1, i, 0, 0, []) V 0 = ((a, s, e), V')) (hk : ∀ σ', Hs σ' X (Tb t N V' :: R) → k (.int .i64 e) σ') :
    kCall Try.prog 26 [pp t, .int .i64 i] σ k :=
  vtie_c h hm fun σ' h' => by rw [hr] at h' ⊢; exact hk σ' h'
theorem euntie (h : Hs σ X (Tb t N V :: R)) (hm : ∀ d, atV V i = some d → -1000000 ≤ d.names ∧ d.names ≤ 1000000) (hr : doM (2, i, 0, 0, []) V 0 = ((a, s, e), V')) (hk : ∀ σ', Hs σ' X (Tb t N V' :: R) → k (.int .i64 e) σ') :
    kCall Try.prog 21 [pp t, .int .i64 i] σ k :=
  vuntie_c h hm fun σ' h' => by rw [hr] at h' ⊢; exact hk σ' h'
theorem ecut (h : Hs σ X (Tb t N V :: R)) (hsz : -9223372036854775808 ≤ n) (hr : doM (7, i, 0, n, []) V 0 = ((a, s, e), V')) (hk : ∀ σ', Hs σ' X (Tb t N V' :: R) → k (.int .i64 e) σ') :
    kCall Try.prog 16 [pp t, .int .i64 i, .int .i64 n] σ k :=
  vcut_c h hsz fun σ' h' => by rw [hr] at h' ⊢; exact hk σ' h'
theorem ewrite (h : Hs σ X (Tb t N V :: R)) (hat : at_ ≤ 9223372036854775807) (hdl : data.length ≤ 1000000000) (hM : MOk V N (6, i, at_, 0, data) m)
    (hr : doM (6, i, at_, 0, data) V m = ((a, s, e), V')) (hk : ∀ σ', Hs σ' X (Tb t N V' :: R) → k (.tuple #[.int .i64 a, .int .i64 e]) σ') :
    kCall Try.prog 12 [pp t, .int .i64 i, .int .i64 at_, .string (bs data)] σ k :=
  vwrite_c (n := 0) h hat hdl fun m' σ' hm h' => by rw [doM_det hm hM, hr] at h' ⊢; exact hk σ' h'
theorem eread (h : Hs σ X (Tb t N V :: R)) (hd : atV V i = some d) (h0 : 0 ≤ at_) (h1 : 0 ≤ n) (hk : ∀ σ', Hs σ' X (Tb t N V :: R) → k (.tuple #[.string (bs ((d.data.drop at_.toNat).take n.toNat)), .int .i64 0]) σ') :
    kCall Try.prog 13 [pp t, .int .i64 i, .int .i64 at_, .int .i64 n] σ k :=
  vread_c (data := []) h fun σ' h' => by
    have e : (doM (5, i, at_, n, []) V 0).1 = (0, (d.data.drop at_.toNat).take n.toNat, 0) := by
      simp only [doM]
      rw [hd]
      have : ¬ (at_ < 0 ∨ n < 0) := by omega
      simp only [this, if_false]
      rfl
    rw [e]
    exact hk σ' h'
theorem hasW_count (has : List Bool) (a m : Nat) (h : has.length = 64) : (hasW has a m).count true ≤ 64 := by
  rw [← h, ← hasW_len has a m]; exact List.count_le_length
theorem many_all {has : List Bool} {fr a len : Nat} (h : has.length = 64) (hf : 64 ≤ fr) (ha : a + len ≤ 4096) : IsMany has fr a len len := by
  have := hasW_count has a len h
  exact ⟨Nat.le_refl _, ⟨.inr ha, by omega⟩, .inl rfl⟩
theorem set_same {α : Type} {l : List α} {j : Nat} {x : α} (h : l[j]? = some x) : l.set j x = l := by
  apply List.ext_getElem?
  intro i
  rw [List.getElem?_set]
  split
  · rename_i hi
    subst hi
    rw [if_pos (List.getElem?_eq_some_iff.1 h).1, h]
  · rfl
theorem atV_get (h : atV V i = some d) : 1 ≤ i ∧ V[(i - 1).toNat]? = some (some d) := by
  unfold atV at h
  split at h
  · rename_i h1
    cases hx : V[(i - 1).toNat]? with
    | none => rw [hx] at h; cases h
    | some o => rw [hx] at h; cases o with
      | none => cases h
      | some d' => exact ⟨h1, by rw [← h]; rfl⟩
  · cases h
theorem do_all (hd : atV V i = some d) (h0 : 0 ≤ at_) : doM (6, i, at_, n, data) V data.length = (((data.length : Int), [], 0), putV V i (some ⟨d.kind, d.names, d.users, dataW d.data at_.toNat data.length data, hasW d.has at_.toNat data.length⟩)) := by
  simp only [doM]
  rw [hd]
  have h3 : ¬ at_ < 0 := by omega
  simp only [h3, if_false]
  by_cases hl : data.length = 0
  · have : data = [] := List.eq_nil_of_length_eq_zero hl
    subst this
    obtain ⟨g1, g2⟩ := atV_get hd
    have e : (⟨d.kind, d.names, d.users, dataW d.data at_.toNat 0 [], hasW d.has at_.toNat 0⟩ : NV) = d := by
      rw [hasW_zero]
      rfl
    show ((0, [], 0), V) = _
    simp only [List.length_nil]
    rw [e, putV, set_same g2]
    rfl
  · simp only [hl, if_false]
    rfl
theorem min3_by {P : Program} {K : Value → AS → Prop} {ts : List TypeId} {ty : TypeId} {x y z : Int} (hK : K (.int .i64 (min (min x y) z)) σ) : kGen P (.blt .min ts ty) [.int .i64 x, .int .i64 y, .int .i64 z] σ K := by
  intro w hw
  refine ⟨_, w, ?_, Out.same hw hK⟩
  have e : min (min x y) z = if z < (if y < x then y else x) then z else (if y < x then y else x) := by
    split <;> split <;> omega
  rw [e]
  rfl
/-! ### The chapter's examples -/
abbrev nv0 (kd : Int) : NV := ⟨kd, 0, 0, [], List.replicate 64 false⟩
abbrev aw2 : TV := [some ⟨1, 0, 0, dataW [] 100 1 [120], hasW (List.replicate 64 false) 100 1⟩, none]
abbrev aw3 : TV := [some ⟨1, 1, 0, dataW [] 100 1 [120], hasW (List.replicate 64 false) 100 1⟩, none]
theorem aw_m : MOk [some (nv0 1), none] 2 (6, 1, 100, 0, [120]) 1 := fun d hd _ _ => by
  obtain rfl : nv0 1 = d := Option.some.inj hd
  exact ⟨by decide, ⟨.inr (by decide), by decide⟩, .inl rfl⟩
theorem aw_w : doM (6, 1, 100, 0, [120]) [some (nv0 1), none] 1 = ((1, [], 0), aw2) := rfl
theorem aw_t : doM (1, 1, 0, 0, []) aw2 0 = ((0, [], 0), aw3) := rfl
theorem aw_u : doM (2, 1, 0, 0, []) aw3 0 = ((0, [], 0), [none, none]) := rfl
theorem aw_1 : ((atV aw2 1).map fun d => (d.data.length : Int)).getD 0 = 101 := rfl
theorem aw_2 : ((2 - used aw2 : Nat) : Int) = 1 := rfl
theorem aw_3 : ((2 - used [none, none] : Nat) : Int) = 2 := rfl
theorem aw_4 : ((atV [none, none] 1).map (·.kind)).getD 0 = 0 := rfl
theorem awake_c (h : Hs σ X R) (hk : ∀ σ', k (.bool true) σ') : kCall Try.prog 9 [] σ k := by
  refine f9 ?_
  (try simp (maxSteps := 1000000) (dsimp := false) (disch := (first | omega | (simp only [okR]; done) | (simp only [sizeR] <;> omega) | fail)) only [↓preR, postR, ↓w_join, Nat.reduceEqDiff, Nat.reduceAdd, Nat.reduceSub, Nat.reduceMul, Int.reduceNeg, Nat.reduceLT, Int.reduceToNat, Nat.reduceLeDiff, Nat.sub_zero, F9])
  refine vnew_c h (fun hb => by omega) (fun t σ1 _ _ _ _ h1 => ?_)
  (try simp (maxSteps := 1000000) (dsimp := false) (disch := (first | omega | (simp only [okR]; done) | (simp only [sizeR] <;> omega) | fail)) only [↓preR, postR, ↓w_join, Nat.reduceEqDiff, Nat.reduceAdd, Nat.reduceSub, Nat.reduceMul, Int.reduceNeg, Nat.reduceLT, Int.reduceToNat, Nat.reduceLeDiff, Nat.sub_zero])
  refine emake h1 (V' := [some (nv0 1), none]) rfl fun σ2 h2 => ?_
  (try simp (maxSteps := 1000000) (dsimp := false) (disch := (first | omega | (simp only [okR]; done) | (simp only [sizeR] <;> omega) | fail)) only [↓preR, postR, ↓w_join, Nat.reduceEqDiff, Nat.reduceAdd, Nat.reduceSub, Nat.reduceMul, Int.reduceNeg, Nat.reduceLT, Int.reduceToNat, Nat.reduceLeDiff, Nat.sub_zero])
  refine ewrite (m := 1) (V' := aw2) (data := [120]) h2 (by decide) (by decide) aw_m aw_w fun σ3 h3 => ?_
  (try simp (maxSteps := 1000000) (dsimp := false) (disch := (first | omega | (simp only [okR]; done) | (simp only [sizeR] <;> omega) | fail)) only [↓preR, postR, ↓w_join, Nat.reduceEqDiff, Nat.reduceAdd, Nat.reduceSub, Nat.reduceMul, Int.reduceNeg, Nat.reduceLT, Int.reduceToNat, Nat.reduceLeDiff, Nat.sub_zero])
  refine vfree_c h3 fun _ => ?_
  (try simp (maxSteps := 1000000) (dsimp := false) (disch := (first | omega | (simp only [okR]; done) | (simp only [sizeR] <;> omega) | fail)) only [↓preR, postR, ↓w_join, Nat.reduceEqDiff, Nat.reduceAdd, Nat.reduceSub, Nat.reduceMul, Int.reduceNeg, Nat.reduceLT, Int.reduceToNat, Nat.reduceLeDiff, Nat.sub_zero])
  refine vsize_c h3 ?_
  (try simp (maxSteps := 1000000) (dsimp := false) (disch := (first | omega | (simp only [okR]; done) | (simp only [sizeR] <;> omega) | fail)) only [↓preR, postR, ↓w_join, Nat.reduceEqDiff, Nat.reduceAdd, Nat.reduceSub, Nat.reduceMul, Int.reduceNeg, Nat.reduceLT, Int.reduceToNat, Nat.reduceLeDiff, Nat.sub_zero])
  refine etie (V' := aw3) h3 (fun d hd => ?_) aw_t fun σ4 h4 => ?_
  · obtain rfl := Option.some.inj hd
    decide
  (try simp (maxSteps := 1000000) (dsimp := false) (disch := (first | omega | (simp only [okR]; done) | (simp only [sizeR] <;> omega) | fail)) only [↓preR, postR, ↓w_join, Nat.reduceEqDiff, Nat.reduceAdd, Nat.reduceSub, Nat.reduceMul, Int.reduceNeg, Nat.reduceLT, Int.reduceToNat, Nat.reduceLeDiff, Nat.sub_zero])
  refine euntie (V' := [none, none]) h4 (fun d hd => ?_) aw_u fun σ5 h5 => ?_
  · obtain rfl := Option.some.inj hd
    decide
  (try simp (maxSteps := 1000000) (dsimp := false) (disch := (first | omega | (simp only [okR]; done) | (simp only [sizeR] <;> omega) | fail)) only [↓preR, postR, ↓w_join, Nat.reduceEqDiff, Nat.reduceAdd, Nat.reduceSub, Nat.reduceMul, Int.reduceNeg, Nat.reduceLT, Int.reduceToNat, Nat.reduceLeDiff, Nat.sub_zero])
  refine vfree_c h5 fun _ => ?_
  (simp (maxSteps := 1000000) (dsimp := false) (disch := (first | omega | (simp only [okR]; done) | (simp only [sizeR] <;> omega) | fail)) only [↓preR, postR, ↓w_join, Nat.reduceEqDiff, Nat.reduceAdd, Nat.reduceSub, Nat.reduceMul, Int.reduceNeg, Nat.reduceLT, Int.reduceToNat, Nat.reduceLeDiff, Nat.sub_zero, aw_1, aw_2, aw_3])
  refine vkind_c h5 ?_
  (try simp (maxSteps := 1000000) (dsimp := false) (disch := (first | omega | (simp only [okR]; done) | (simp only [sizeR] <;> omega) | fail)) only [↓preR, postR, ↓w_join, Nat.reduceEqDiff, Nat.reduceAdd, Nat.reduceSub, Nat.reduceMul, Int.reduceNeg, Nat.reduceLT, Int.reduceToNat, Nat.reduceLeDiff, Nat.sub_zero, aw_4])
  exact hk _
theorem z_at {i : Int} (hk : k (.pointer none) σ) : kCall Try.prog 35 [.pointer none, .int .i64 i] σ k := by
  refine f35 ?_
  (try simp (maxSteps := 1000000) (dsimp := false) (disch := (first | omega | (simp only [okR]; done) | (simp only [sizeR] <;> omega) | fail)) only [↓preR, postR, ↓w_join, Nat.reduceEqDiff, Nat.reduceAdd, Nat.reduceSub, Nat.reduceMul, Int.reduceNeg, Nat.reduceLT, Int.reduceToNat, Nat.reduceLeDiff, Nat.sub_zero, F35])
  exact hk
theorem z_find {i : Int} (hk : k (.tuple #[.pointer none, .int .i64 2]) σ) : kCall Try.prog 31 [.pointer none, .int .i64 i] σ k := by
  refine f31 ?_
  (try simp (maxSteps := 1000000) (dsimp := false) (disch := (first | omega | (simp only [okR]; done) | (simp only [sizeR] <;> omega) | fail)) only [↓preR, postR, ↓w_join, Nat.reduceEqDiff, Nat.reduceAdd, Nat.reduceSub, Nat.reduceMul, Int.reduceNeg, Nat.reduceLT, Int.reduceToNat, Nat.reduceLeDiff, Nat.sub_zero, F31])
  exact hk
theorem z_Make {i : Int} (hk : k (.tuple #[.int .i64 0, .int .i64 2]) σ) : kCall Try.prog 11 [.pointer none, .int .i64 i] σ k := by
  refine f11 ?_
  (try simp (maxSteps := 1000000) (dsimp := false) (disch := (first | omega | (simp only [okR]; done) | (simp only [sizeR] <;> omega) | fail)) only [↓preR, postR, ↓w_join, Nat.reduceEqDiff, Nat.reduceAdd, Nat.reduceSub, Nat.reduceMul, Int.reduceNeg, Nat.reduceLT, Int.reduceToNat, Nat.reduceLeDiff, Nat.sub_zero, F11])
  exact hk
theorem z_Read {i a b : Int} (hk : k (.tuple #[.string (bs []), .int .i64 2]) σ) : kCall Try.prog 13 [.pointer none, .int .i64 i, .int .i64 a, .int .i64 b] σ k := by
  refine f13 ?_
  (try simp (maxSteps := 1000000) (dsimp := false) (disch := (first | omega | (simp only [okR]; done) | (simp only [sizeR] <;> omega) | fail)) only [↓preR, postR, ↓w_join, Nat.reduceEqDiff, Nat.reduceAdd, Nat.reduceSub, Nat.reduceMul, Int.reduceNeg, Nat.reduceLT, Int.reduceToNat, Nat.reduceLeDiff, Nat.sub_zero, F13])
  refine z_find ?_
  (try simp (maxSteps := 1000000) (dsimp := false) (disch := (first | omega | (simp only [okR]; done) | (simp only [sizeR] <;> omega) | fail)) only [↓preR, postR, ↓w_join, Nat.reduceEqDiff, Nat.reduceAdd, Nat.reduceSub, Nat.reduceMul, Int.reduceNeg, Nat.reduceLT, Int.reduceToNat, Nat.reduceLeDiff, Nat.sub_zero])
  exact hk
theorem z_Write {i a : Int} (hk : k (.tuple #[.int .i64 0, .int .i64 2]) σ) : kCall Try.prog 12 [.pointer none, .int .i64 i, .int .i64 a, .string (bs data)] σ k := by
  refine f12 ?_
  (try simp (maxSteps := 1000000) (dsimp := false) (disch := (first | omega | (simp only [okR]; done) | (simp only [sizeR] <;> omega) | fail)) only [↓preR, postR, ↓w_join, Nat.reduceEqDiff, Nat.reduceAdd, Nat.reduceSub, Nat.reduceMul, Int.reduceNeg, Nat.reduceLT, Int.reduceToNat, Nat.reduceLeDiff, Nat.sub_zero, F12])
  refine z_find ?_
  (try simp (maxSteps := 1000000) (dsimp := false) (disch := (first | omega | (simp only [okR]; done) | (simp only [sizeR] <;> omega) | fail)) only [↓preR, postR, ↓w_join, Nat.reduceEqDiff, Nat.reduceAdd, Nat.reduceSub, Nat.reduceMul, Int.reduceNeg, Nat.reduceLT, Int.reduceToNat, Nat.reduceLeDiff, Nat.sub_zero])
  exact hk
theorem z_Free (hk : k (.tuple #[.int .i64 0, .int .i64 0]) σ) : kCall Try.prog 15 [.pointer none] σ k := by
  refine f15 ?_
  (try simp (maxSteps := 1000000) (dsimp := false) (disch := (first | omega | (simp only [okR]; done) | (simp only [sizeR] <;> omega) | fail)) only [↓preR, postR, ↓w_join, Nat.reduceEqDiff, Nat.reduceAdd, Nat.reduceSub, Nat.reduceMul, Int.reduceNeg, Nat.reduceLT, Int.reduceToNat, Nat.reduceLeDiff, Nat.sub_zero, F15])
  exact hk
theorem z_Kind {i : Int} (hk : k (.int .i64 0) σ) : kCall Try.prog 19 [.pointer none, .int .i64 i] σ k := by
  refine f19 ?_
  (try simp (maxSteps := 1000000) (dsimp := false) (disch := (first | omega | (simp only [okR]; done) | (simp only [sizeR] <;> omega) | fail)) only [↓preR, postR, ↓w_join, Nat.reduceEqDiff, Nat.reduceAdd, Nat.reduceSub, Nat.reduceMul, Int.reduceNeg, Nat.reduceLT, Int.reduceToNat, Nat.reduceLeDiff, Nat.sub_zero, F19])
  refine z_at ?_
  (try simp (maxSteps := 1000000) (dsimp := false) (disch := (first | omega | (simp only [okR]; done) | (simp only [sizeR] <;> omega) | fail)) only [↓preR, postR, ↓w_join, Nat.reduceEqDiff, Nat.reduceAdd, Nat.reduceSub, Nat.reduceMul, Int.reduceNeg, Nat.reduceLT, Int.reduceToNat, Nat.reduceLeDiff, Nat.sub_zero])
  exact hk
theorem z_Size {i : Int} (hk : k (.int .i64 0) σ) : kCall Try.prog 14 [.pointer none, .int .i64 i] σ k := by
  refine f14 ?_
  (try simp (maxSteps := 1000000) (dsimp := false) (disch := (first | omega | (simp only [okR]; done) | (simp only [sizeR] <;> omega) | fail)) only [↓preR, postR, ↓w_join, Nat.reduceEqDiff, Nat.reduceAdd, Nat.reduceSub, Nat.reduceMul, Int.reduceNeg, Nat.reduceLT, Int.reduceToNat, Nat.reduceLeDiff, Nat.sub_zero, F14])
  refine z_at ?_
  (try simp (maxSteps := 1000000) (dsimp := false) (disch := (first | omega | (simp only [okR]; done) | (simp only [sizeR] <;> omega) | fail)) only [↓preR, postR, ↓w_join, Nat.reduceEqDiff, Nat.reduceAdd, Nat.reduceSub, Nat.reduceMul, Int.reduceNeg, Nat.reduceLT, Int.reduceToNat, Nat.reduceLeDiff, Nat.sub_zero])
  exact hk
theorem z_Links {i : Int} (hk : k (.int .i64 0) σ) : kCall Try.prog 18 [.pointer none, .int .i64 i] σ k := by
  refine f18 ?_
  (try simp (maxSteps := 1000000) (dsimp := false) (disch := (first | omega | (simp only [okR]; done) | (simp only [sizeR] <;> omega) | fail)) only [↓preR, postR, ↓w_join, Nat.reduceEqDiff, Nat.reduceAdd, Nat.reduceSub, Nat.reduceMul, Int.reduceNeg, Nat.reduceLT, Int.reduceToNat, Nat.reduceLeDiff, Nat.sub_zero, F18])
  refine z_at ?_
  (try simp (maxSteps := 1000000) (dsimp := false) (disch := (first | omega | (simp only [okR]; done) | (simp only [sizeR] <;> omega) | fail)) only [↓preR, postR, ↓w_join, Nat.reduceEqDiff, Nat.reduceAdd, Nat.reduceSub, Nat.reduceMul, Int.reduceNeg, Nat.reduceLT, Int.reduceToNat, Nat.reduceLeDiff, Nat.sub_zero])
  exact hk
theorem z_Tie {i : Int} (hk : k (.int .i64 2) σ) : kCall Try.prog 26 [.pointer none, .int .i64 i] σ k := by
  refine f26 ?_
  (try simp (maxSteps := 1000000) (dsimp := false) (disch := (first | omega | (simp only [okR]; done) | (simp only [sizeR] <;> omega) | fail)) only [↓preR, postR, ↓w_join, Nat.reduceEqDiff, Nat.reduceAdd, Nat.reduceSub, Nat.reduceMul, Int.reduceNeg, Nat.reduceLT, Int.reduceToNat, Nat.reduceLeDiff, Nat.sub_zero, F26])
  refine z_find ?_
  (try simp (maxSteps := 1000000) (dsimp := false) (disch := (first | omega | (simp only [okR]; done) | (simp only [sizeR] <;> omega) | fail)) only [↓preR, postR, ↓w_join, Nat.reduceEqDiff, Nat.reduceAdd, Nat.reduceSub, Nat.reduceMul, Int.reduceNeg, Nat.reduceLT, Int.reduceToNat, Nat.reduceLeDiff, Nat.sub_zero])
  exact hk
theorem z_Untie {i : Int} (hk : k (.int .i64 2) σ) : kCall Try.prog 21 [.pointer none, .int .i64 i] σ k := by
  refine f21 ?_
  (try simp (maxSteps := 1000000) (dsimp := false) (disch := (first | omega | (simp only [okR]; done) | (simp only [sizeR] <;> omega) | fail)) only [↓preR, postR, ↓w_join, Nat.reduceEqDiff, Nat.reduceAdd, Nat.reduceSub, Nat.reduceMul, Int.reduceNeg, Nat.reduceLT, Int.reduceToNat, Nat.reduceLeDiff, Nat.sub_zero, F21])
  refine z_find ?_
  (try simp (maxSteps := 1000000) (dsimp := false) (disch := (first | omega | (simp only [okR]; done) | (simp only [sizeR] <;> omega) | fail)) only [↓preR, postR, ↓w_join, Nat.reduceEqDiff, Nat.reduceAdd, Nat.reduceSub, Nat.reduceMul, Int.reduceNeg, Nat.reduceLT, Int.reduceToNat, Nat.reduceLeDiff, Nat.sub_zero])
  exact hk
theorem z_Hold {i : Int} (hk : k (.int .i64 2) σ) : kCall Try.prog 20 [.pointer none, .int .i64 i] σ k := by
  refine f20 ?_
  (try simp (maxSteps := 1000000) (dsimp := false) (disch := (first | omega | (simp only [okR]; done) | (simp only [sizeR] <;> omega) | fail)) only [↓preR, postR, ↓w_join, Nat.reduceEqDiff, Nat.reduceAdd, Nat.reduceSub, Nat.reduceMul, Int.reduceNeg, Nat.reduceLT, Int.reduceToNat, Nat.reduceLeDiff, Nat.sub_zero, F20])
  refine z_find ?_
  (try simp (maxSteps := 1000000) (dsimp := false) (disch := (first | omega | (simp only [okR]; done) | (simp only [sizeR] <;> omega) | fail)) only [↓preR, postR, ↓w_join, Nat.reduceEqDiff, Nat.reduceAdd, Nat.reduceSub, Nat.reduceMul, Int.reduceNeg, Nat.reduceLT, Int.reduceToNat, Nat.reduceLeDiff, Nat.sub_zero])
  exact hk
theorem z_Loose {i : Int} (hk : k (.int .i64 2) σ) : kCall Try.prog 22 [.pointer none, .int .i64 i] σ k := by
  refine f22 ?_
  (try simp (maxSteps := 1000000) (dsimp := false) (disch := (first | omega | (simp only [okR]; done) | (simp only [sizeR] <;> omega) | fail)) only [↓preR, postR, ↓w_join, Nat.reduceEqDiff, Nat.reduceAdd, Nat.reduceSub, Nat.reduceMul, Int.reduceNeg, Nat.reduceLT, Int.reduceToNat, Nat.reduceLeDiff, Nat.sub_zero, F22])
  refine z_find ?_
  (try simp (maxSteps := 1000000) (dsimp := false) (disch := (first | omega | (simp only [okR]; done) | (simp only [sizeR] <;> omega) | fail)) only [↓preR, postR, ↓w_join, Nat.reduceEqDiff, Nat.reduceAdd, Nat.reduceSub, Nat.reduceMul, Int.reduceNeg, Nat.reduceLT, Int.reduceToNat, Nat.reduceLeDiff, Nat.sub_zero])
  exact hk
theorem z_Cut {i n : Int} (hk : k (.int .i64 2) σ) : kCall Try.prog 16 [.pointer none, .int .i64 i, .int .i64 n] σ k := by
  refine f16 ?_
  (try simp (maxSteps := 1000000) (dsimp := false) (disch := (first | omega | (simp only [okR]; done) | (simp only [sizeR] <;> omega) | fail)) only [↓preR, postR, ↓w_join, Nat.reduceEqDiff, Nat.reduceAdd, Nat.reduceSub, Nat.reduceMul, Int.reduceNeg, Nat.reduceLT, Int.reduceToNat, Nat.reduceLeDiff, Nat.sub_zero, F16])
  refine z_find ?_
  (try simp (maxSteps := 1000000) (dsimp := false) (disch := (first | omega | (simp only [okR]; done) | (simp only [sizeR] <;> omega) | fail)) only [↓preR, postR, ↓w_join, Nat.reduceEqDiff, Nat.reduceAdd, Nat.reduceSub, Nat.reduceMul, Int.reduceNeg, Nat.reduceLT, Int.reduceToNat, Nat.reduceLeDiff, Nat.sub_zero])
  exact hk
theorem z_Copy (hk : k (.pointer none) σ) : kCall Try.prog 24 [.pointer none] σ k := by
  refine f24 ?_
  (try simp (maxSteps := 1000000) (dsimp := false) (disch := (first | omega | (simp only [okR]; done) | (simp only [sizeR] <;> omega) | fail)) only [↓preR, postR, ↓w_join, Nat.reduceEqDiff, Nat.reduceAdd, Nat.reduceSub, Nat.reduceMul, Int.reduceNeg, Nat.reduceLT, Int.reduceToNat, Nat.reduceLeDiff, Nat.sub_zero, F24])
  exact hk
theorem nil_walk {i : Int} {data : List UInt8} : kCall Try.prog 8 [.int .i64 i, .string (bs data)] σ fun v _ => v = .bool true := by
  refine f8 ?_
  (try simp (maxSteps := 1000000) (dsimp := false) (disch := (first | omega | (simp only [okR]; done) | (simp only [sizeR] <;> omega) | fail)) only [↓preR, postR, ↓w_join, Nat.reduceEqDiff, Nat.reduceAdd, Nat.reduceSub, Nat.reduceMul, Int.reduceNeg, Nat.reduceLT, Int.reduceToNat, Nat.reduceLeDiff, Nat.sub_zero, F8])
  refine z_Make ?_
  (try simp (maxSteps := 1000000) (dsimp := false) (disch := (first | omega | (simp only [okR]; done) | (simp only [sizeR] <;> omega) | fail)) only [↓preR, postR, ↓w_join, Nat.reduceEqDiff, Nat.reduceAdd, Nat.reduceSub, Nat.reduceMul, Int.reduceNeg, Nat.reduceLT, Int.reduceToNat, Nat.reduceLeDiff, Nat.sub_zero])
  refine z_Read ?_
  (try simp (maxSteps := 1000000) (dsimp := false) (disch := (first | omega | (simp only [okR]; done) | (simp only [sizeR] <;> omega) | fail)) only [↓preR, postR, ↓w_join, Nat.reduceEqDiff, Nat.reduceAdd, Nat.reduceSub, Nat.reduceMul, Int.reduceNeg, Nat.reduceLT, Int.reduceToNat, Nat.reduceLeDiff, Nat.sub_zero])
  refine z_Write ?_
  (try simp (maxSteps := 1000000) (dsimp := false) (disch := (first | omega | (simp only [okR]; done) | (simp only [sizeR] <;> omega) | fail)) only [↓preR, postR, ↓w_join, Nat.reduceEqDiff, Nat.reduceAdd, Nat.reduceSub, Nat.reduceMul, Int.reduceNeg, Nat.reduceLT, Int.reduceToNat, Nat.reduceLeDiff, Nat.sub_zero])
  refine z_Free ?_
  (try simp (maxSteps := 1000000) (dsimp := false) (disch := (first | omega | (simp only [okR]; done) | (simp only [sizeR] <;> omega) | fail)) only [↓preR, postR, ↓w_join, Nat.reduceEqDiff, Nat.reduceAdd, Nat.reduceSub, Nat.reduceMul, Int.reduceNeg, Nat.reduceLT, Int.reduceToNat, Nat.reduceLeDiff, Nat.sub_zero])
  refine z_Kind ?_
  (try simp (maxSteps := 1000000) (dsimp := false) (disch := (first | omega | (simp only [okR]; done) | (simp only [sizeR] <;> omega) | fail)) only [↓preR, postR, ↓w_join, Nat.reduceEqDiff, Nat.reduceAdd, Nat.reduceSub, Nat.reduceMul, Int.reduceNeg, Nat.reduceLT, Int.reduceToNat, Nat.reduceLeDiff, Nat.sub_zero])
  refine z_Size ?_
  (try simp (maxSteps := 1000000) (dsimp := false) (disch := (first | omega | (simp only [okR]; done) | (simp only [sizeR] <;> omega) | fail)) only [↓preR, postR, ↓w_join, Nat.reduceEqDiff, Nat.reduceAdd, Nat.reduceSub, Nat.reduceMul, Int.reduceNeg, Nat.reduceLT, Int.reduceToNat, Nat.reduceLeDiff, Nat.sub_zero])
  refine z_Links ?_
  (try simp (maxSteps := 1000000) (dsimp := false) (disch := (first | omega | (simp only [okR]; done) | (simp only [sizeR] <;> omega) | fail)) only [↓preR, postR, ↓w_join, Nat.reduceEqDiff, Nat.reduceAdd, Nat.reduceSub, Nat.reduceMul, Int.reduceNeg, Nat.reduceLT, Int.reduceToNat, Nat.reduceLeDiff, Nat.sub_zero])
  refine z_Tie ?_
  (try simp (maxSteps := 1000000) (dsimp := false) (disch := (first | omega | (simp only [okR]; done) | (simp only [sizeR] <;> omega) | fail)) only [↓preR, postR, ↓w_join, Nat.reduceEqDiff, Nat.reduceAdd, Nat.reduceSub, Nat.reduceMul, Int.reduceNeg, Nat.reduceLT, Int.reduceToNat, Nat.reduceLeDiff, Nat.sub_zero])
  refine z_Untie ?_
  (try simp (maxSteps := 1000000) (dsimp := false) (disch := (first | omega | (simp only [okR]; done) | (simp only [sizeR] <;> omega) | fail)) only [↓preR, postR, ↓w_join, Nat.reduceEqDiff, Nat.reduceAdd, Nat.reduceSub, Nat.reduceMul, Int.reduceNeg, Nat.reduceLT, Int.reduceToNat, Nat.reduceLeDiff, Nat.sub_zero])
  refine z_Hold ?_
  (try simp (maxSteps := 1000000) (dsimp := false) (disch := (first | omega | (simp only [okR]; done) | (simp only [sizeR] <;> omega) | fail)) only [↓preR, postR, ↓w_join, Nat.reduceEqDiff, Nat.reduceAdd, Nat.reduceSub, Nat.reduceMul, Int.reduceNeg, Nat.reduceLT, Int.reduceToNat, Nat.reduceLeDiff, Nat.sub_zero])
  refine z_Loose ?_
  (try simp (maxSteps := 1000000) (dsimp := false) (disch := (first | omega | (simp only [okR]; done) | (simp only [sizeR] <;> omega) | fail)) only [↓preR, postR, ↓w_join, Nat.reduceEqDiff, Nat.reduceAdd, Nat.reduceSub, Nat.reduceMul, Int.reduceNeg, Nat.reduceLT, Int.reduceToNat, Nat.reduceLeDiff, Nat.sub_zero])
  refine z_Cut ?_
  (try simp (maxSteps := 1000000) (dsimp := false) (disch := (first | omega | (simp only [okR]; done) | (simp only [sizeR] <;> omega) | fail)) only [↓preR, postR, ↓w_join, Nat.reduceEqDiff, Nat.reduceAdd, Nat.reduceSub, Nat.reduceMul, Int.reduceNeg, Nat.reduceLT, Int.reduceToNat, Nat.reduceLeDiff, Nat.sub_zero])
  refine z_Copy ?_
  (try simp (maxSteps := 1000000) (dsimp := false) (disch := (first | omega | (simp only [okR]; done) | (simp only [sizeR] <;> omega) | fail)) only [↓preR, postR, ↓w_join, Nat.reduceEqDiff, Nat.reduceAdd, Nat.reduceSub, Nat.reduceMul, Int.reduceNeg, Nat.reduceLT, Int.reduceToNat, Nat.reduceLeDiff, Nat.sub_zero])
  refine awake_c (X := fun _ _ => none) (R := []) ⟨fun _ _ _ h => (by cases h), trivial⟩ fun σ3 => ?_
  (try simp (maxSteps := 1000000) (dsimp := false) (disch := (first | omega | (simp only [okR]; done) | (simp only [sizeR] <;> omega) | fail)) only [↓preR, postR, ↓w_join, Nat.reduceEqDiff, Nat.reduceAdd, Nat.reduceSub, Nat.reduceMul, Int.reduceNeg, Nat.reduceLT, Int.reduceToNat, Nat.reduceLeDiff, Nat.sub_zero])
theorem nil_law {v0 v1 : Value} {c : Ce} (A0 : OV c (shOf Try.prog 8 3) v0) (A1 : OV c (shOf Try.prog 8 9) v1) :
    kCall Try.prog 8 [v0, v1] σ fun v _ => v = .bool true := by
  rw [show shOf Try.prog 8 3 = .int .i64 from by kernel_rfl] at A0
  rw [show shOf Try.prog 8 9 = .str from by kernel_rfl] at A1
  obtain ⟨i, rfl, _⟩ := arg_int A0
  obtain ⟨data, rfl, _⟩ := arg_str A1
  exact nil_walk
end
end Go.Proofs.Ytmkiaoddkodngaa
