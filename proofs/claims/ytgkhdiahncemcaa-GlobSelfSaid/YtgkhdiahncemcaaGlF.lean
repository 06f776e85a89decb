/- Patterns: the statements' own helpers: a list of tokens anew, two lists held against one another, few tokens. Conditions: as each theorem says. -/
import Derived.Test.YtgkhdiahncemcaaGlE
namespace Go.Proofs.Ytgkhdiahncemcaa
open E Go.Lib
set_option linter.unusedVariables false
set_option linter.unusedSimpArgs false
set_option maxHeartbeats 1000000
set_option maxRecDepth 20000

section
variable {σ σ' : AS} {X : Ce} {R : List Ck} {k : Value → AS → Prop} {l a b : List Tok} {v va vb : Value}
theorem copy_c (hl : RepL X v l) (hn : l.length ≤ 1000000) (hr : ∀ t, t ∈ l → t.2.2.2.length ≤ 1000000) (h : Hs σ X R) (hk : ∀ X' v' σ', Ce.le X X' → RepL X' v' l → Hs σ' X' R → k v' σ') :
    kCall Try.prog 10 [v] σ k := by
  obtain ⟨a, b, o, cap, rfl, hcap, hmax, hat⟩ := tok_at hl
  refine f10 ?_
  (try simp (maxSteps := 1000000) (dsimp := false) (disch := (first | omega | (simp only [okR]; done) | (simp only [sizeR] <;> omega) | fail)) only [↓preR, postR, ↓w_stop, Nat.reduceEqDiff, Nat.reduceAdd, Nat.reduceSub, Nat.reduceMul, Int.reduceNeg, Nat.reduceLT, Int.reduceToNat, Nat.reduceLeDiff, Nat.sub_zero, F10])
  refine join_now ?_
  refine loop_inv (fun nn xs s1 => ∃ (j : Nat) (X1 : Ce) (ov : Value), xs = [ov, .int .i64 j] ∧ Ce.le X X1 ∧ j ≤ l.length ∧ Hs s1 X1 (E.Own ov (l.take j) :: R) ∧ nn = l.length - j) _ ⟨0, X, _, rfl, Ce.le_refl _, Nat.zero_le _, h.own0, rfl⟩ ?_
  clear h
  rintro _ _ s1 again ⟨j, X1, ov, rfl, hx, hj, h1, rfl⟩ hag
  by_cases hlt : j < l.length
  · obtain ⟨rfl, u, hkd, hu, c0, c1, c2, c3⟩ := hat j hlt
    have hrj := hr l[j] (List.getElem_mem hlt)
    have hu1 := hu.mono hx
    obtain ⟨ra, rb, ro, rcap, rfl, rhc, rhm, rat⟩ := rng_at hu1
    have g0 := h1.ldx (hx _ _ _ c0)
    have g1 := h1.ldx (hx _ _ _ c1)
    have g2 := h1.ldx (hx _ _ _ c2)
    have h2 := h1.new (cs := tokC 0 0 false (.slice none 0 0))
    have e0 := h2.ldx (hx _ _ _ c0)
    have e1 := h2.ldx (hx _ _ _ c1)
    have e2 := h2.ldx (hx _ _ _ c2)
    rw [new_c] at e0 e1 e2
    have h3 := h2.put (cs' := tokC l[j].1 l[j].2.1.toNat l[j].2.2.1 (.slice none 0 0))
    (try simp (maxSteps := 1000000) (dsimp := false) (disch := (first | omega | (simp only [okR]; done) | (simp only [sizeR] <;> omega) | fail)) only [↓preR, postR, ↓w_stop, Nat.reduceEqDiff, Nat.reduceAdd, Nat.reduceSub, Nat.reduceMul, Int.reduceNeg, Nat.reduceLT, Int.reduceToNat, Nat.reduceLeDiff, Nat.sub_zero])
    refine join_now ?_
    (try simp (maxSteps := 1000000) (dsimp := false) (disch := (first | omega | (simp only [okR]; done) | (simp only [sizeR] <;> omega) | fail)) only [↓preR, postR, ↓w_stop, Nat.reduceEqDiff, Nat.reduceAdd, Nat.reduceSub, Nat.reduceMul, Int.reduceNeg, Nat.reduceLT, Int.reduceToNat, Nat.reduceLeDiff, Nat.sub_zero])
    refine join_now ?_
    (try simp (maxSteps := 1000000) (dsimp := false) (disch := (first | omega | (simp only [okR]; done) | (simp only [sizeR] <;> omega) | fail)) only [↓preR, postR, ↓w_stop, Nat.reduceEqDiff, Nat.reduceAdd, Nat.reduceSub, Nat.reduceMul, Int.reduceNeg, Nat.reduceLT, Int.reduceToNat, Nat.reduceLeDiff, Nat.sub_zero, g0, g1, g2, e0, e1, e2])
    generalize s1.n = pt at h3 ⊢
    generalize AS.put _ pt _ = s2 at h3 ⊢
    clear g0 g1 g2 e0 e1 e2 h1 h2
    refine join_by fun J5 hJ5 => ?_
    have t5 : ∀ s3 u, Hs s3 X1 (E.Own u l[j].2.2.2 :: Cel pt (tokC l[j].1 l[j].2.1.toNat l[j].2.2.1 u) :: E.Own ov (l.take j) :: R) → J5 [] s3 := by
      intro s3 u h4
      refine hJ5 _ _ ?_
      obtain ⟨x, c, hu', _⟩ := h4.own
      obtain ⟨X', hx', hr', h5⟩ := h4.keep
      subst hu'
      (simp (maxSteps := 1000000) (dsimp := false) (disch := (first | omega | (simp only [okR]; done) | (simp only [sizeR] <;> omega) | fail)) only [↓preR, postR, ↓w_join, Nat.reduceEqDiff, Nat.reduceAdd, Nat.reduceSub, Nat.reduceMul, Int.reduceNeg, Nat.reduceLT, Int.reduceToNat, Nat.reduceLeDiff, Nat.sub_zero, h5.obj])
      refine push_by h5.drop (e := 42) (bytes := 40) (by kernel_rfl) (by kernel_rfl) (tok_rp (t := l[j]) hkd hr') (by rw [List.length_take]; omega) (by rw [List.length_take]; unfold maxLen; omega) fun v' s9 g9 => ?_
      (simp (maxSteps := 1000000) (dsimp := false) (disch := (first | omega | (simp only [okR]; done) | (simp only [sizeR] <;> omega) | fail)) only [↓preR, postR, ↓w_join, Nat.reduceEqDiff, Nat.reduceAdd, Nat.reduceSub, Nat.reduceMul, Int.reduceNeg, Nat.reduceLT, Int.reduceToNat, Nat.reduceLeDiff, Nat.sub_zero])
      refine hag _ _ _ ⟨j + 1, X', v', by simp, Ce.le_trans hx hx', hlt, ?_, rfl⟩ (by omega)
      rw [List.take_succ_eq_append_getElem hlt]
      exact g9
    clear hJ5 hag
    refine loop_inv (fun nn xs s4 => ∃ (m : Nat) (w : Value), xs = [.int .i64 m] ∧ m ≤ l[j].2.2.2.length ∧
      Hs s4 X1 (E.Own w (l[j].2.2.2.take m) :: Cel pt (tokC l[j].1 l[j].2.1.toNat l[j].2.2.1 w) :: E.Own ov (l.take j) :: R) ∧ nn = l[j].2.2.2.length - m) _ ⟨0, _, rfl, Nat.zero_le _, h3.own0, rfl⟩ ?_
    clear h3
    rintro _ _ s4 again ⟨m, w, rfl, hm, h4, rfl⟩ hag
    have g3 := h4.ldx (hx _ _ _ c3)
    by_cases hlt2 : m < l[j].2.2.2.length
    · obtain ⟨rfl, d0, d1⟩ := rat m hlt2
      have f0 := h4.ldx d0
      have f1 := h4.ldx d1
      have hp5 : pt < s4.n := h4.drop.lt
      obtain ⟨x, cw, hw, _⟩ := h4.own
      subst hw
      (simp (maxSteps := 1000000) (dsimp := false) (disch := (first | omega | (simp only [okR]; done) | (simp only [sizeR] <;> omega) | fail)) only [↓preR, postR, ↓w_join, Nat.reduceEqDiff, Nat.reduceAdd, Nat.reduceSub, Nat.reduceMul, Int.reduceNeg, Nat.reduceLT, Int.reduceToNat, Nat.reduceLeDiff, Nat.sub_zero, g3, f0, f1, h4.obj1])
      refine push_by h4 (e := 44) (bytes := 2) (by kernel_rfl) (by kernel_rfl) (show Rp.rp X1 l[j].2.2.2[m] _ from rng_rp l[j].2.2.2[m].1 l[j].2.2.2[m].2) (by rw [List.length_take]; omega) (by rw [List.length_take]; unfold maxLen; omega) fun u' s6 h6 => ?_
      have h7 := h6.put1 (cs' := tokC l[j].1 l[j].2.1.toNat l[j].2.2.1 u')
      obtain ⟨x', c', hu', _⟩ := h6.own
      subst hu'
      (simp (maxSteps := 1000000) (dsimp := false) (disch := (first | omega | (simp only [okR]; done) | (simp only [sizeR] <;> omega) | fail)) only [↓preR, postR, ↓w_join, Nat.reduceEqDiff, Nat.reduceAdd, Nat.reduceSub, Nat.reduceMul, Int.reduceNeg, Nat.reduceLT, Int.reduceToNat, Nat.reduceLeDiff, Nat.sub_zero, h6.obj1])
      rw [← List.take_succ_eq_append_getElem hlt2] at h7 ⊢
      exact hag _ _ _ ⟨m + 1, _, by simp, hlt2, h7, rfl⟩ (by omega)
    · obtain rfl : m = l[j].2.2.2.length := by omega
      rw [List.take_length] at h4
      (simp (maxSteps := 1000000) (dsimp := false) (disch := (first | omega | (simp only [okR]; done) | (simp only [sizeR] <;> omega) | fail)) only [↓preR, postR, ↓w_join, Nat.reduceEqDiff, Nat.reduceAdd, Nat.reduceSub, Nat.reduceMul, Int.reduceNeg, Nat.reduceLT, Int.reduceToNat, Nat.reduceLeDiff, Nat.sub_zero, g3])
      exact t5 _ _ h4
  · obtain rfl : j = l.length := by omega
    rw [List.take_length] at h1
    (simp (maxSteps := 1000000) (dsimp := false) (disch := (first | omega | (simp only [okR]; done) | (simp only [sizeR] <;> omega) | fail)) only [↓preR, postR, ↓w_join, Nat.reduceEqDiff, Nat.reduceAdd, Nat.reduceSub, Nat.reduceMul, Int.reduceNeg, Nat.reduceLT, Int.reduceToNat, Nat.reduceLeDiff, Nat.sub_zero])
    obtain ⟨X', hx', hr, h2⟩ := h1.keep
    exact hk _ _ _ (Ce.le_trans hx hx') hr h2
theorem rng_ne {x y : Operand} (r t : UInt8 × UInt8) (hk : k (.bool (!decide (r = t))) σ) : kGen Try.prog (.bop .neq 44 x y) [.agg [.int .u8 r.1.toNat, .int .u8 r.2.toNat].toArray, .agg [.int .u8 t.1.toNat, .int .u8 t.2.toNat].toArray] σ k := by
  refine sne_by (ks := [.i .u8, .i .u8]) (by kernel_rfl) [.i .u8 r.1.toNat, .i .u8 r.2.toNat] [.i .u8 t.1.toNat, .i .u8 t.2.toNat] rfl rfl ?_
  have e : decide ([L1.i IntKind.u8 r.1.toNat, .i .u8 r.2.toNat] = [.i .u8 t.1.toNat, .i .u8 t.2.toNat]) = decide (r = t) := by
    apply decide_eq_decide.2
    constructor
    · intro h
      injection h with h1 h2
      injection h2 with h2 _
      injection h1 with _ h1
      injection h2 with _ h2
      exact Prod.ext (UInt8.toNat_inj.1 (by omega)) (UInt8.toNat_inj.1 (by omega))
    · rintro rfl; rfl
  rw [e]
  exact hk
theorem same_c (ha : RepL X va a) (hb : RepL X vb b) (h : Hs σ X R) (hk : k (.bool (decide (a = b))) σ) : kCall Try.prog 9 [va, vb] σ k := by
  obtain ⟨a1, ab, ao, acap, rfl, hac, ham, aat⟩ := tok_at ha
  obtain ⟨b1, bb, bo, bcap, rfl, hbc, hbm, bat⟩ := tok_at hb
  refine f9 ?_
  by_cases hlen : a.length = b.length
  · (try simp (maxSteps := 1000000) (dsimp := false) (disch := (first | omega | (simp only [okR]; done) | (simp only [sizeR] <;> omega) | fail)) only [↓preR, postR, ↓w_stop, Nat.reduceEqDiff, Nat.reduceAdd, Nat.reduceSub, Nat.reduceMul, Int.reduceNeg, Nat.reduceLT, Int.reduceToNat, Nat.reduceLeDiff, Nat.sub_zero, F9])
    refine join_now ?_
    (try simp (maxSteps := 1000000) (dsimp := false) (disch := (first | omega | (simp only [okR]; done) | (simp only [sizeR] <;> omega) | fail)) only [↓preR, postR, ↓w_stop, Nat.reduceEqDiff, Nat.reduceAdd, Nat.reduceSub, Nat.reduceMul, Int.reduceNeg, Nat.reduceLT, Int.reduceToNat, Nat.reduceLeDiff, Nat.sub_zero])
    refine join_now ?_
    refine loop_inv (fun nn xs s1 => ∃ j : Nat, xs = [.int .i64 j] ∧ σ = s1 ∧ j ≤ a.length ∧ a.take j = b.take j ∧ nn = a.length - j) _ ⟨0, rfl, rfl, Nat.zero_le _, rfl, rfl⟩ ?_
    rintro _ _ s1 again ⟨j, rfl, rfl, hj, hpre, rfl⟩ hag
    by_cases hlt : j < a.length
    · have hlt' : j < b.length := by omega
      obtain ⟨rfl, u, hkd, hu, c0, c1, c2, c3⟩ := aat j hlt
      obtain ⟨rfl, w, hkd', hw, d0, d1, d2, d3⟩ := bat j hlt'
      obtain ⟨ra, rb, ro, rcap, rfl, rhc, rhm, rat⟩ := rng_at hu
      obtain ⟨qa, qb, qo, qcap, rfl, qhc, qhm, qat⟩ := rng_at hw
      unfold maxLen at rhm ham
      have g0 := h.ldx c0
      have g1 := h.ldx c1
      have g2 := h.ldx c2
      have g3 := h.ldx c3
      have f0 := h.ldx d0
      have f1 := h.ldx d1
      have f2 := h.ldx d2
      have f3 := h.ldx d3
      have no : a[j] ≠ b[j] → k (.bool false) σ := by
        intro hn
        rw [decide_eq_false (fun he => hn (by subst he; rfl))] at hk
        exact hk
      by_cases n0 : a[j].1 = b[j].1
      · by_cases n1 : a[j].2.1 = b[j].2.1
        · by_cases n2 : a[j].2.2.1 = b[j].2.2.1
          · have z2 : (a[j].2.2.1 == b[j].2.2.1) = true := by simp [n2]
            by_cases n3 : a[j].2.2.2.length = b[j].2.2.2.length
            · have z3 : ((a[j].2.2.2.length : Nat) : Int) = b[j].2.2.2.length := by omega
              (simp (maxSteps := 1000000) (dsimp := false) (disch := (first | omega | (simp only [okR]; done) | (simp only [sizeR] <;> omega) | fail)) only [↓preR, postR, ↓w_join, Nat.reduceEqDiff, Nat.reduceAdd, Nat.reduceSub, Nat.reduceMul, Int.reduceNeg, Nat.reduceLT, Int.reduceToNat, Nat.reduceLeDiff, Nat.sub_zero, g0, g1, g2, g3, f0, f1, f2, f3, u8_eq, n0, n1, z2, z3])
              refine loop_inv (fun nn xs s1 => ∃ m : Nat, xs = [.int .i64 m] ∧ σ = s1 ∧ m ≤ a[j].2.2.2.length ∧ a[j].2.2.2.take m = b[j].2.2.2.take m ∧ nn = a[j].2.2.2.length - m) _ ⟨0, rfl, rfl, Nat.zero_le _, rfl, rfl⟩ ?_
              rintro _ _ s1 again2 ⟨m, rfl, rfl, hm, hp2, rfl⟩ hag2
              by_cases hlt2 : m < a[j].2.2.2.length
              · have hlt2' : m < b[j].2.2.2.length := by omega
                obtain ⟨rfl, r0, r1⟩ := rat m hlt2
                obtain ⟨rfl, q0, q1⟩ := qat m hlt2'
                have g4 := h.ldx r0
                have g5 := h.ldx r1
                have f4 := h.ldx q0
                have f5 := h.ldx q1
                (simp (maxSteps := 1000000) (dsimp := false) (disch := (first | omega | (simp only [okR]; done) | (simp only [sizeR] <;> omega) | fail)) only [↓preR, postR, ↓w_join, Nat.reduceEqDiff, Nat.reduceAdd, Nat.reduceSub, Nat.reduceMul, Int.reduceNeg, Nat.reduceLT, Int.reduceToNat, Nat.reduceLeDiff, Nat.sub_zero, g3, f3, g4, g5, f4, f5])
                refine rng_ne _ _ ?_
                by_cases hr : a[j].2.2.2[m] = b[j].2.2.2[m]
                · (simp (maxSteps := 1000000) (dsimp := false) (disch := (first | omega | (simp only [okR]; done) | (simp only [sizeR] <;> omega) | fail)) only [↓preR, postR, ↓w_join, Nat.reduceEqDiff, Nat.reduceAdd, Nat.reduceSub, Nat.reduceMul, Int.reduceNeg, Nat.reduceLT, Int.reduceToNat, Nat.reduceLeDiff, Nat.sub_zero, hr])
                  exact hag2 _ _ _ ⟨m + 1, by simp, rfl, hlt2, by rw [List.take_succ_eq_append_getElem hlt2, List.take_succ_eq_append_getElem hlt2', hp2, hr], rfl⟩ (by omega)
                · (simp (maxSteps := 1000000) (dsimp := false) (disch := (first | omega | (simp only [okR]; done) | (simp only [sizeR] <;> omega) | fail)) only [↓preR, postR, ↓w_join, Nat.reduceEqDiff, Nat.reduceAdd, Nat.reduceSub, Nat.reduceMul, Int.reduceNeg, Nat.reduceLT, Int.reduceToNat, Nat.reduceLeDiff, Nat.sub_zero, hr])
                  exact no (fun he => hr (by
                    have := congrArg (fun t : Tok => t.2.2.2[m]?) he
                    simp only [List.getElem?_eq_getElem hlt2, List.getElem?_eq_getElem hlt2'] at this
                    exact Option.some.inj this))
              · (simp (maxSteps := 1000000) (dsimp := false) (disch := (first | omega | (simp only [okR]; done) | (simp only [sizeR] <;> omega) | fail)) only [↓preR, postR, ↓w_join, Nat.reduceEqDiff, Nat.reduceAdd, Nat.reduceSub, Nat.reduceMul, Int.reduceNeg, Nat.reduceLT, Int.reduceToNat, Nat.reduceLeDiff, Nat.sub_zero, g3])
                refine hag _ _ _ ⟨j + 1, by simp, rfl, hlt, ?_, rfl⟩ (by omega)
                rw [List.take_succ_eq_append_getElem hlt, List.take_succ_eq_append_getElem hlt', hpre]
                rw [List.take_of_length_le (by omega), List.take_of_length_le (by omega)] at hp2
                rw [show a[j] = b[j] from Prod.ext n0 (Prod.ext n1 (Prod.ext n2 hp2))]
            · have z3 : ¬ ((a[j].2.2.2.length : Nat) : Int) = b[j].2.2.2.length := by omega
              (simp (maxSteps := 1000000) (dsimp := false) (disch := (first | omega | (simp only [okR]; done) | (simp only [sizeR] <;> omega) | fail)) only [↓preR, postR, ↓w_join, Nat.reduceEqDiff, Nat.reduceAdd, Nat.reduceSub, Nat.reduceMul, Int.reduceNeg, Nat.reduceLT, Int.reduceToNat, Nat.reduceLeDiff, Nat.sub_zero, g0, g1, g2, g3, f0, f1, f2, f3, u8_eq, n0, n1, z2, z3])
              exact no (fun he => n3 (by rw [he]))
          · have z2 : (a[j].2.2.1 == b[j].2.2.1) = false := by simp [n2]
            (simp (maxSteps := 1000000) (dsimp := false) (disch := (first | omega | (simp only [okR]; done) | (simp only [sizeR] <;> omega) | fail)) only [↓preR, postR, ↓w_join, Nat.reduceEqDiff, Nat.reduceAdd, Nat.reduceSub, Nat.reduceMul, Int.reduceNeg, Nat.reduceLT, Int.reduceToNat, Nat.reduceLeDiff, Nat.sub_zero, g0, g1, g2, f0, f1, f2, u8_eq, n0, n1, z2])
            exact no (fun he => n2 (by rw [he]))
        · (simp (maxSteps := 1000000) (dsimp := false) (disch := (first | omega | (simp only [okR]; done) | (simp only [sizeR] <;> omega) | fail)) only [↓preR, postR, ↓w_join, Nat.reduceEqDiff, Nat.reduceAdd, Nat.reduceSub, Nat.reduceMul, Int.reduceNeg, Nat.reduceLT, Int.reduceToNat, Nat.reduceLeDiff, Nat.sub_zero, g0, g1, f0, f1, u8_eq, n0, n1])
          exact no (fun he => n1 (by rw [he]))
      · (simp (maxSteps := 1000000) (dsimp := false) (disch := (first | omega | (simp only [okR]; done) | (simp only [sizeR] <;> omega) | fail)) only [↓preR, postR, ↓w_join, Nat.reduceEqDiff, Nat.reduceAdd, Nat.reduceSub, Nat.reduceMul, Int.reduceNeg, Nat.reduceLT, Int.reduceToNat, Nat.reduceLeDiff, Nat.sub_zero, g0, f0, n0])
        exact no (fun he => n0 (by rw [he]))
    · (simp (maxSteps := 1000000) (dsimp := false) (disch := (first | omega | (simp only [okR]; done) | (simp only [sizeR] <;> omega) | fail)) only [↓preR, postR, ↓w_join, Nat.reduceEqDiff, Nat.reduceAdd, Nat.reduceSub, Nat.reduceMul, Int.reduceNeg, Nat.reduceLT, Int.reduceToNat, Nat.reduceLeDiff, Nat.sub_zero])
      have : a = b := by
        rw [List.take_of_length_le (by omega), List.take_of_length_le (by omega)] at hpre
        exact hpre
      rw [decide_eq_true this] at hk
      exact hk
  · rw [decide_eq_false (fun h => hlen (by rw [h]))] at hk
    (try simp (maxSteps := 1000000) (dsimp := false) (disch := (first | omega | (simp only [okR]; done) | (simp only [sizeR] <;> omega) | fail)) only [↓preR, postR, ↓w_join, Nat.reduceEqDiff, Nat.reduceAdd, Nat.reduceSub, Nat.reduceMul, Int.reduceNeg, Nat.reduceLT, Int.reduceToNat, Nat.reduceLeDiff, Nat.sub_zero, F9])
    exact hk
/-- Are they not too many? -/
def fewL (l : List Tok) : Bool := decide (l.length ≤ 60) && l.all fun t => decide (t.2.2.2.length ≤ 60)
theorem few_c (ha : RepL X va a) (h : Hs σ X R) (hk : k (.bool (fewL a)) σ) : kCall Try.prog 14 [va] σ k := by
  obtain ⟨a1, ab, ao, acap, rfl, hac, ham, aat⟩ := tok_at ha
  refine f14 ?_
  by_cases hlen : a.length ≤ 60
  · (try simp (maxSteps := 1000000) (dsimp := false) (disch := (first | omega | (simp only [okR]; done) | (simp only [sizeR] <;> omega) | fail)) only [↓preR, postR, ↓w_stop, Nat.reduceEqDiff, Nat.reduceAdd, Nat.reduceSub, Nat.reduceMul, Int.reduceNeg, Nat.reduceLT, Int.reduceToNat, Nat.reduceLeDiff, Nat.sub_zero, F14])
    refine join_now ?_
    (try simp (maxSteps := 1000000) (dsimp := false) (disch := (first | omega | (simp only [okR]; done) | (simp only [sizeR] <;> omega) | fail)) only [↓preR, postR, ↓w_stop, Nat.reduceEqDiff, Nat.reduceAdd, Nat.reduceSub, Nat.reduceMul, Int.reduceNeg, Nat.reduceLT, Int.reduceToNat, Nat.reduceLeDiff, Nat.sub_zero])
    refine join_now ?_
    refine loop_inv (fun nn xs s1 => ∃ j : Nat, xs = [.int .i64 j] ∧ σ = s1 ∧ j ≤ a.length ∧ (∀ t, t ∈ a.take j → t.2.2.2.length ≤ 60) ∧ nn = a.length - j) _ ⟨0, rfl, rfl, Nat.zero_le _, by simp, rfl⟩ ?_
    rintro _ _ s1 again ⟨j, rfl, rfl, hj, hpre, rfl⟩ hag
    by_cases hlt : j < a.length
    · obtain ⟨rfl, u, hkd, hu, c0, c1, c2, c3⟩ := aat j hlt
      obtain ⟨ra, rb, ro, rcap, rfl, rhc, rhm, rat⟩ := rng_at hu
      have g3 := h.ldx c3
      by_cases hr : a[j].2.2.2.length ≤ 60
      · (simp (maxSteps := 1000000) (dsimp := false) (disch := (first | omega | (simp only [okR]; done) | (simp only [sizeR] <;> omega) | fail)) only [↓preR, postR, ↓w_join, Nat.reduceEqDiff, Nat.reduceAdd, Nat.reduceSub, Nat.reduceMul, Int.reduceNeg, Nat.reduceLT, Int.reduceToNat, Nat.reduceLeDiff, Nat.sub_zero, g3])
        refine hag _ _ _ ⟨j + 1, by simp, rfl, hlt, ?_, rfl⟩ (by omega)
        rw [List.take_succ_eq_append_getElem hlt]
        intro t ht
        rcases List.mem_append.1 ht with ht | ht
        · exact hpre t ht
        · simp at ht; subst ht; exact hr
      · (simp (maxSteps := 1000000) (dsimp := false) (disch := (first | omega | (simp only [okR]; done) | (simp only [sizeR] <;> omega) | fail)) only [↓preR, postR, ↓w_join, Nat.reduceEqDiff, Nat.reduceAdd, Nat.reduceSub, Nat.reduceMul, Int.reduceNeg, Nat.reduceLT, Int.reduceToNat, Nat.reduceLeDiff, Nat.sub_zero, g3])
        have : fewL a = false := by
          unfold fewL
          rw [Bool.and_eq_false_iff]
          right
          rw [List.all_eq_false]
          exact ⟨a[j], List.getElem_mem hlt, by simpa using hr⟩
        rw [this] at hk
        exact hk
    · (simp (maxSteps := 1000000) (dsimp := false) (disch := (first | omega | (simp only [okR]; done) | (simp only [sizeR] <;> omega) | fail)) only [↓preR, postR, ↓w_join, Nat.reduceEqDiff, Nat.reduceAdd, Nat.reduceSub, Nat.reduceMul, Int.reduceNeg, Nat.reduceLT, Int.reduceToNat, Nat.reduceLeDiff, Nat.sub_zero])
      rw [List.take_of_length_le (by omega)] at hpre
      have : fewL a = true := by
        unfold fewL
        simp only [Bool.and_eq_true, decide_eq_true_eq, List.all_eq_true]
        exact ⟨hlen, hpre⟩
      rw [this] at hk
      exact hk
  · have : fewL a = false := by simp [fewL, hlen]
    rw [this] at hk
    (try simp (maxSteps := 1000000) (dsimp := false) (disch := (first | omega | (simp only [okR]; done) | (simp only [sizeR] <;> omega) | fail)) only [↓preR, postR, ↓w_join, Nat.reduceEqDiff, Nat.reduceAdd, Nat.reduceSub, Nat.reduceMul, Int.reduceNeg, Nat.reduceLT, Int.reduceToNat, Nat.reduceLeDiff, Nat.sub_zero, F14])
    exact hk
end
end Go.Proofs.Ytgkhdiahncemcaa
