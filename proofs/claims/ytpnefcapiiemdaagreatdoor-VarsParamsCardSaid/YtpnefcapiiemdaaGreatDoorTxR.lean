/- A number's digits, as the document's answer writes them. Conditions: as each theorem says. -/
import Derived.Test.YtpnefcapiiemdaaGreatDoorOe
import Derived.Test.YtpnefcapiiemdaaGreatDoorC
import Derived.Lib.ItoaNum
import Derived.Test.YtpnefcapiiemdaaGreatDoorCvo
namespace Go.Proofs.YtpnefcapiiemdaaGreatDoor
open E Go.Lib
set_option linter.unusedVariables false
set_option linter.unusedSimpArgs false
set_option maxHeartbeats 1000000
set_option maxRecDepth 20000
/-- The digits of a number, the last one first. -/
def revN (u : Nat) : List UInt8 := if h : u = 0 then [] else UInt8.ofNat (48 + u % 10) :: revN (u / 10)
termination_by u
decreasing_by omega
theorem revN_z : revN 0 = [] := by rw [revN]; rfl
theorem revN_s {u : Nat} (h : ¬ u = 0) : revN u = UInt8.ofNat (48 + u % 10) :: revN (u / 10) := by rw [revN, dif_neg h]
theorem rev_dec : ∀ (n u : Nat), u ≤ n → 0 < u → (revN u).reverse = decDigits u
  | 0, u, h, h0 => by omega
  | n + 1, u, h, h0 => by
    rw [revN_s (by omega), decDigits, List.reverse_cons]
    by_cases h10 : u < 10
    · rw [dif_pos h10, show u / 10 = 0 from by omega, revN_z, show u % 10 = u from by omega]
      rfl
    · rw [dif_neg h10, rev_dec n (u / 10) (by omega) (by omega)]
theorem revN_len : ∀ (n u : Nat), u < 10 ^ n → (revN u).length ≤ n
  | 0, u, h => by
    have : u = 0 := by simpa using h
    subst this
    rw [revN_z]; exact Nat.le_refl _
  | n + 1, u, h => by
    by_cases h0 : u = 0
    · subst h0; rw [revN_z]; exact Nat.zero_le _
    · rw [revN_s h0, List.length_cons]
      have : u / 10 < 10 ^ n := by rw [Nat.pow_succ] at h; omega
      have := revN_len n (u / 10) this
      omega
section
variable {σ σ' : AS} {X : Ce} {R : List Ck} {k : Value → AS → Prop} {kk : Value → Prop} {v : Value} {l : List UInt8} {n : Int}
theorem rtext_c (hn : inI64 n) (h : Hs σ X R) (hk : ∀ σ', Hs σ' X R → k (.string (bs (itoa n))) σ') : kCall Tryz.prog 33 [.int .i64 n] σ k := by
  unfold inI64 at hn
  refine f33 ?_
  by_cases h0 : n = 0
  · subst h0
    (try simp (maxSteps := 1000000) (dsimp := false) (disch := (first | omega | (simp only [okR]; done) | (simp only [sizeR] <;> omega) | fail)) only [↓preR, postR, ↓w_stop, Nat.reduceEqDiff, Nat.reduceAdd, Nat.reduceSub, Nat.reduceMul, Int.reduceNeg, Nat.reduceLT, Int.reduceToNat, Nat.reduceLeDiff, Nat.sub_zero, F33])
    refine join_now ?_
    (try simp (maxSteps := 1000000) (dsimp := false) (disch := (first | omega | (simp only [okR]; done) | (simp only [sizeR] <;> omega) | fail)) only [↓preR, postR, ↓w_stop, Nat.reduceEqDiff, Nat.reduceAdd, Nat.reduceSub, Nat.reduceMul, Int.reduceNeg, Nat.reduceLT, Int.reduceToNat, Nat.reduceLeDiff, Nat.sub_zero])
    have e0 : itoa 0 = [48] := by unfold itoa; rw [if_neg (by decide), decDigits]; rfl
    rw [e0] at hk
    exact hk _ h
  (try simp (maxSteps := 1000000) (dsimp := false) (disch := (first | omega | (simp only [okR]; done) | (simp only [sizeR] <;> omega) | fail)) only [↓preR, postR, ↓w_stop, Nat.reduceEqDiff, Nat.reduceAdd, Nat.reduceSub, Nat.reduceMul, Int.reduceNeg, Nat.reduceLT, Int.reduceToNat, Nat.reduceLeDiff, Nat.sub_zero, F33])
  refine join_now ?_
  have hu : n.natAbs ≤ 9223372036854775808 := by omega
  have hlen : (revN n.natAbs).length ≤ 19 := revN_len 19 _ (by omega)
  (try simp (maxSteps := 1000000) (dsimp := false) (disch := (first | omega | (simp only [okR]; done) | (simp only [sizeR] <;> omega) | fail)) only [↓preR, postR, ↓w_stop, Nat.reduceEqDiff, Nat.reduceAdd, Nat.reduceSub, Nat.reduceMul, Int.reduceNeg, Nat.reduceLT, Int.reduceToNat, Nat.reduceLeDiff, Nat.sub_zero, h0])
  refine join_by fun J2 hJ2 => ?_
  have tail2 : ∀ (s1 : AS) (u : Value), Hs s1 X (E.Own (α := UInt8) u (revN n.natAbs) :: R) → J2 [u] s1 := by
    intro s1 u h1
    refine hJ2 _ _ ?_
    clear hJ2
    (try simp (maxSteps := 1000000) (dsimp := false) (disch := (first | omega | (simp only [okR]; done) | (simp only [sizeR] <;> omega) | fail)) only [↓preR, postR, ↓w_stop, Nat.reduceEqDiff, Nat.reduceAdd, Nat.reduceSub, Nat.reduceMul, Int.reduceNeg, Nat.reduceLT, Int.reduceToNat, Nat.reduceLeDiff, Nat.sub_zero])
    refine join_by fun J3 hJ3 => ?_
    have tail3 : ∀ (s2 : AS) (u : Value) (L : List UInt8), L.reverse = itoa n → L.length ≤ 20 → Hs s2 X (E.Own (α := UInt8) u L :: R) → J3 [u] s2 := by
      intro s2 u L hL hLl h2
      refine hJ3 _ _ ?_
      clear hJ3
      obtain ⟨ux, uc, rfl, _⟩ := h2.own
      have h3 := h2.own0 (α := UInt8)
      (try simp (maxSteps := 1000000) (dsimp := false) (disch := (first | omega | (simp only [okR]; done) | (simp only [sizeR] <;> omega) | fail)) only [↓preR, postR, ↓w_stop, Nat.reduceEqDiff, Nat.reduceAdd, Nat.reduceSub, Nat.reduceMul, Int.reduceNeg, Nat.reduceLT, Int.reduceToNat, Nat.reduceLeDiff, Nat.sub_zero])
      refine join_by fun J4 hJ4 => ?_
      have tail4 : ∀ (s3 : AS) (w : Value), Hs s3 X (E.Own (α := UInt8) w L.reverse :: E.Own (α := UInt8) (.slice ux L.length uc) L :: R) → J4 [w] s3 := by
        intro s3 w h4
        refine hJ4 _ _ ?_
        (try simp (maxSteps := 1000000) (dsimp := false) (disch := (first | omega | (simp only [okR]; done) | (simp only [sizeR] <;> omega) | fail)) only [↓preR, postR, ↓w_stop, Nat.reduceEqDiff, Nat.reduceAdd, Nat.reduceSub, Nat.reduceMul, Int.reduceNeg, Nat.reduceLT, Int.reduceToNat, Nat.reduceLeDiff, Nat.sub_zero])
        refine cvO_by h4 ?_
        rw [hL]
        exact hk _ h4.drop.drop
      clear hJ4
      (try simp (maxSteps := 1000000) (dsimp := false) (disch := (first | omega | (simp only [okR]; done) | (simp only [sizeR] <;> omega) | fail)) only [↓preR, postR, ↓w_stop, Nat.reduceEqDiff, Nat.reduceAdd, Nat.reduceSub, Nat.reduceMul, Int.reduceNeg, Nat.reduceLT, Int.reduceToNat, Nat.reduceLeDiff, Nat.sub_zero])
      refine loop_inv (fun nn xs s3 => ∃ (w : Value) (j : Nat), xs = [w, .int .i64 ((j : Int) - 1)] ∧ j ≤ L.length ∧ Hs s3 X (E.Own (α := UInt8) w (L.drop j).reverse :: E.Own (α := UInt8) (.slice ux L.length uc) L :: R) ∧ j = nn) _
        ⟨_, L.length, rfl, Nat.le_refl _, by rw [List.drop_of_length_le (Nat.le_refl _)]; exact h3, rfl⟩ ?_
      rintro _ _ s3 again ⟨w, j, rfl, hj, h4, rfl⟩ hag
      (try simp (maxSteps := 1000000) (dsimp := false) (disch := (first | omega | (simp only [okR]; done) | (simp only [sizeR] <;> omega) | fail)) only [↓preR, postR, ↓w_stop, Nat.reduceEqDiff, Nat.reduceAdd, Nat.reduceSub, Nat.reduceMul, Int.reduceNeg, Nat.reduceLT, Int.reduceToNat, Nat.reduceLeDiff, Nat.sub_zero])
      refine join_now ?_
      by_cases hj0 : j = 0
      · subst hj0
        rw [List.drop_zero] at h4
        (try simp (maxSteps := 1000000) (dsimp := false) (disch := (first | omega | (simp only [okR]; done) | (simp only [sizeR] <;> omega) | fail)) only [↓preR, postR, ↓w_stop, Nat.reduceEqDiff, Nat.reduceAdd, Nat.reduceSub, Nat.reduceMul, Int.reduceNeg, Nat.reduceLT, Int.reduceToNat, Nat.reduceLeDiff, Nat.sub_zero])
        exact tail4 _ _ h4
      · obtain ⟨i, rfl⟩ : ∃ i, j = i + 1 := ⟨j - 1, by omega⟩
        have hlt : i < L.length := by omega
        have ej : (((i + 1 : Nat) : Int) - 1) = (i : Int) := by omega
        obtain ⟨g, c, cs, ys, e1, _, hcm, hcs, hm, hyl, hy, _⟩ := Own.cell h4.drop hlt
        injection e1 with e1 _ _
        subst e1
        have hcs : cs = [.int .u8 L[i].toNat] := hcs
        have y0 : ys[i]? = some (.int .u8 L[i].toNat) := by
          have := hy 0 (.int .u8 L[i].toNat) (by rw [hcs]; rfl)
          simpa [Rp.sz] using this
        have er : (L.drop (i + 1)).reverse ++ [L[i]] = (L.drop i).reverse := by rw [List.drop_eq_getElem_cons hlt, List.reverse_cons]
        have dl : (L.drop (i + 1)).reverse.length ≤ 20 := by rw [List.length_reverse, List.length_drop]; omega
        (try simp (maxSteps := 1000000) (dsimp := false) (disch := (first | omega | (simp only [okR]; done) | (simp only [sizeR] <;> omega) | fail)) only [↓preR, postR, ↓w_stop, Nat.reduceEqDiff, Nat.reduceAdd, Nat.reduceSub, Nat.reduceMul, Int.reduceNeg, Nat.reduceLT, Int.reduceToNat, Nat.reduceLeDiff, Nat.sub_zero, ej])
        refine join_now ?_
        (try simp (maxSteps := 1000000) (dsimp := false) (disch := (first | omega | (simp only [okR]; done) | (simp only [sizeR] <;> omega) | fail)) only [↓preR, postR, ↓w_stop, Nat.reduceEqDiff, Nat.reduceAdd, Nat.reduceSub, Nat.reduceMul, Int.reduceNeg, Nat.reduceLT, Int.reduceToNat, Nat.reduceLeDiff, Nat.sub_zero, ej, hm, y0])
        refine push_by h4 (e := 5) (bytes := 1) (by kernel_rfl) (by kernel_rfl) (a := L[i]) rfl (by omega) (by unfold maxLen; omega) fun v' s4 h5 => ?_
        rw [er] at h5
        (try simp (maxSteps := 1000000) (dsimp := false) (disch := (first | omega | (simp only [okR]; done) | (simp only [sizeR] <;> omega) | fail)) only [↓preR, postR, ↓w_stop, Nat.reduceEqDiff, Nat.reduceAdd, Nat.reduceSub, Nat.reduceMul, Int.reduceNeg, Nat.reduceLT, Int.reduceToNat, Nat.reduceLeDiff, Nat.sub_zero])
        exact hag _ _ _ ⟨v', i, by rw [ej], by omega, h5, rfl⟩ (by omega)
    clear hJ3
    by_cases hneg : n < 0
    · (try simp (maxSteps := 1000000) (dsimp := false) (disch := (first | omega | (simp only [okR]; done) | (simp only [sizeR] <;> omega) | fail)) only [↓preR, postR, ↓w_stop, Nat.reduceEqDiff, Nat.reduceAdd, Nat.reduceSub, Nat.reduceMul, Int.reduceNeg, Nat.reduceLT, Int.reduceToNat, Nat.reduceLeDiff, Nat.sub_zero, hneg])
      refine push_by h1 (e := 5) (bytes := 1) (by kernel_rfl) (by kernel_rfl) (a := 45) rfl (by omega) (by unfold maxLen; omega) fun v' s4 h5 => ?_
      (try simp (maxSteps := 1000000) (dsimp := false) (disch := (first | omega | (simp only [okR]; done) | (simp only [sizeR] <;> omega) | fail)) only [↓preR, postR, ↓w_stop, Nat.reduceEqDiff, Nat.reduceAdd, Nat.reduceSub, Nat.reduceMul, Int.reduceNeg, Nat.reduceLT, Int.reduceToNat, Nat.reduceLeDiff, Nat.sub_zero])
      refine tail3 s4 v' _ ?_ (by simp; omega) h5
      rw [List.reverse_append, rev_dec _ _ (Nat.le_refl _) (by omega)]
      unfold itoa
      rw [if_pos hneg]
      rfl
    · (try simp (maxSteps := 1000000) (dsimp := false) (disch := (first | omega | (simp only [okR]; done) | (simp only [sizeR] <;> omega) | fail)) only [↓preR, postR, ↓w_stop, Nat.reduceEqDiff, Nat.reduceAdd, Nat.reduceSub, Nat.reduceMul, Int.reduceNeg, Nat.reduceLT, Int.reduceToNat, Nat.reduceLeDiff, Nat.sub_zero, hneg])
      refine tail3 s1 u _ ?_ (by omega) h1
      rw [rev_dec _ _ (Nat.le_refl _) (by omega)]
      unfold itoa
      rw [if_neg hneg, show n.natAbs = n.toNat from by omega]
  clear hJ2
  (try simp (maxSteps := 1000000) (dsimp := false) (disch := (first | omega | (simp only [okR]; done) | (simp only [sizeR] <;> omega) | fail)) only [↓preR, postR, ↓w_stop, Nat.reduceEqDiff, Nat.reduceAdd, Nat.reduceSub, Nat.reduceMul, Int.reduceNeg, Nat.reduceLT, Int.reduceToNat, Nat.reduceLeDiff, Nat.sub_zero])
  refine loop_inv (fun nn xs s1 => ∃ (w : Value) (m : Int) (acc : List UInt8), xs = [w, .int .i64 m] ∧ acc ++ revN m.natAbs = revN n.natAbs ∧ inI64 m ∧ Hs s1 X (E.Own (α := UInt8) w acc :: R) ∧ nn = m.natAbs) _ ⟨_, n, [], rfl, rfl, hn, h.own0, rfl⟩ ?_
  rintro _ _ s1 again ⟨w, m, acc, rfl, hacc, hm, h1, rfl⟩ hag
  unfold inI64 at hm
  (try simp (maxSteps := 1000000) (dsimp := false) (disch := (first | omega | (simp only [okR]; done) | (simp only [sizeR] <;> omega) | fail)) only [↓preR, postR, ↓w_stop, Nat.reduceEqDiff, Nat.reduceAdd, Nat.reduceSub, Nat.reduceMul, Int.reduceNeg, Nat.reduceLT, Int.reduceToNat, Nat.reduceLeDiff, Nat.sub_zero])
  refine join_now ?_
  by_cases hm0 : m = 0
  · subst hm0
    have hacc : acc = revN n.natAbs := by rw [show (0 : Int).natAbs = 0 from rfl, revN_z, List.append_nil] at hacc; exact hacc
    subst hacc
    (try simp (maxSteps := 1000000) (dsimp := false) (disch := (first | omega | (simp only [okR]; done) | (simp only [sizeR] <;> omega) | fail)) only [↓preR, postR, ↓w_stop, Nat.reduceEqDiff, Nat.reduceAdd, Nat.reduceSub, Nat.reduceMul, Int.reduceNeg, Nat.reduceLT, Int.reduceToNat, Nat.reduceLeDiff, Nat.sub_zero])
    exact tail2 _ _ h1
  rw [revN_s (by omega)] at hacc
  have hal : acc.length ≤ 19 := by rw [← hacc] at hlen; simp at hlen; omega
  have tpos : 0 ≤ m → m.tmod 10 = ((m.natAbs % 10 : Nat) : Int) := fun h => by
    rw [Int.tmod_eq_emod_of_nonneg h]; omega
  have tneg : m < 0 → m.tmod 10 = -((m.natAbs % 10 : Nat) : Int) := fun h => by
    have e : m = -(m.natAbs : Int) := by omega
    conv => lhs; rw [e]
    rw [Int.neg_tmod, Int.tmod_eq_emod_of_nonneg (by omega)]
    omega
  have qd : (m.tdiv 10).natAbs = m.natAbs / 10 := by rw [Int.natAbs_tdiv]; rfl
  (try simp (maxSteps := 1000000) (dsimp := false) (disch := (first | omega | (simp only [okR]; done) | (simp only [sizeR] <;> omega) | fail)) only [↓preR, postR, ↓w_stop, Nat.reduceEqDiff, Nat.reduceAdd, Nat.reduceSub, Nat.reduceMul, Int.reduceNeg, Nat.reduceLT, Int.reduceToNat, Nat.reduceLeDiff, Nat.sub_zero, hm0])
  refine join_by fun J10 hJ10 => ?_
  have tail10 : ∀ (s2 : AS) (w' : Value), Hs s2 X (E.Own (α := UInt8) w' (acc ++ [UInt8.ofNat (48 + m.natAbs % 10)]) :: R) → J10 [w'] s2 := by
    intro s2 w' h2
    refine hJ10 _ _ ?_
    have hq : inI64 (m.tdiv 10) := by unfold inI64; omega
    have hq' := hq
    unfold inI64 at hq'
    (try simp (maxSteps := 1000000) (dsimp := false) (disch := (first | omega | (simp only [okR]; done) | (simp only [sizeR] <;> omega) | fail)) only [↓preR, postR, ↓w_stop, Nat.reduceEqDiff, Nat.reduceAdd, Nat.reduceSub, Nat.reduceMul, Int.reduceNeg, Nat.reduceLT, Int.reduceToNat, Nat.reduceLeDiff, Nat.sub_zero])
    exact hag _ _ _ ⟨w', m.tdiv 10, _, rfl, by rw [qd, ← hacc]; simp, hq, h2, rfl⟩ (by rw [qd]; omega)
  clear hJ10
  (try simp (maxSteps := 1000000) (dsimp := false) (disch := (first | omega | (simp only [okR]; done) | (simp only [sizeR] <;> omega) | fail)) only [↓preR, postR, ↓w_stop, Nat.reduceEqDiff, Nat.reduceAdd, Nat.reduceSub, Nat.reduceMul, Int.reduceNeg, Nat.reduceLT, Int.reduceToNat, Nat.reduceLeDiff, Nat.sub_zero])
  refine join_by fun J11 hJ11 => ?_
  have tail11 : J11 [.int .i64 ((m.natAbs % 10 : Nat) : Int)] s1 := by
    refine hJ11 _ _ ?_
    clear hJ11
    have e8 : IntKind.u8.wrap (48 + ((m.natAbs % 10 : Nat) : Int)) = ((UInt8.ofNat (48 + m.natAbs % 10)).toNat : Int) := by
      rw [wrapU8 _ (by omega) (by omega)]
      simp
      omega
    (try simp (maxSteps := 1000000) (dsimp := false) (disch := (first | omega | (simp only [okR]; done) | (simp only [sizeR] <;> omega) | fail)) only [↓preR, postR, ↓w_stop, Nat.reduceEqDiff, Nat.reduceAdd, Nat.reduceSub, Nat.reduceMul, Int.reduceNeg, Nat.reduceLT, Int.reduceToNat, Nat.reduceLeDiff, Nat.sub_zero, ↓e8])
    refine push_by h1 (e := 5) (bytes := 1) (by kernel_rfl) (by kernel_rfl) (a := UInt8.ofNat (48 + m.natAbs % 10)) rfl (by omega) (by unfold maxLen; omega) fun v' s4 h5 => ?_
    (try simp (maxSteps := 1000000) (dsimp := false) (disch := (first | omega | (simp only [okR]; done) | (simp only [sizeR] <;> omega) | fail)) only [↓preR, postR, ↓w_stop, Nat.reduceEqDiff, Nat.reduceAdd, Nat.reduceSub, Nat.reduceMul, Int.reduceNeg, Nat.reduceLT, Int.reduceToNat, Nat.reduceLeDiff, Nat.sub_zero])
    exact tail10 s4 v' h5
  clear hJ11
  by_cases hneg : m < 0
  · have e1 := tneg hneg
    by_cases hz : m.natAbs % 10 = 0
    · rw [hz] at e1 tail11
      have e1 : m.tmod 10 = 0 := e1
      (try simp (maxSteps := 1000000) (dsimp := false) (disch := (first | omega | (simp only [okR]; done) | (simp only [sizeR] <;> omega) | fail)) only [↓preR, postR, ↓w_stop, Nat.reduceEqDiff, Nat.reduceAdd, Nat.reduceSub, Nat.reduceMul, Int.reduceNeg, Nat.reduceLT, Int.reduceToNat, Nat.reduceLeDiff, Nat.sub_zero, e1])
      exact tail11
    · have e2 : m.tmod 10 < 0 := by omega
      have e3 : IntKind.i64.wrap (0 - m.tmod 10) = ((m.natAbs % 10 : Nat) : Int) := by
        rw [wrap64 _ (by omega) (by omega)]; omega
      (try simp (maxSteps := 1000000) (dsimp := false) (disch := (first | omega | (simp only [okR]; done) | (simp only [sizeR] <;> omega) | fail)) only [↓preR, postR, ↓w_stop, Nat.reduceEqDiff, Nat.reduceAdd, Nat.reduceSub, Nat.reduceMul, Int.reduceNeg, Nat.reduceLT, Int.reduceToNat, Nat.reduceLeDiff, Nat.sub_zero, e2, ↓e3])
      exact tail11
  · have e1 := tpos (by omega)
    (try simp (maxSteps := 1000000) (dsimp := false) (disch := (first | omega | (simp only [okR]; done) | (simp only [sizeR] <;> omega) | fail)) only [↓preR, postR, ↓w_stop, Nat.reduceEqDiff, Nat.reduceAdd, Nat.reduceSub, Nat.reduceMul, Int.reduceNeg, Nat.reduceLT, Int.reduceToNat, Nat.reduceLeDiff, Nat.sub_zero, ↓e1])
    exact tail11
end
end Go.Proofs.YtpnefcapiiemdaaGreatDoor
