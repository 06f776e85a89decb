/- Sums, and what is set, of any two numbers: the laws. Conditions: as each theorem says. -/
import Derived.Test.YtkbpbagjbjkpmaaDoorWs
namespace Go.Proofs.YtkbpbagjbjkpmaaDoor
open E Go.Lib
open Rp
set_option linter.unusedVariables false
set_option linter.unusedSimpArgs false
set_option maxHeartbeats 1000000
set_option maxRecDepth 20000

abbrev tx10 : List Str := [[97, 32, 43, 32, 98], [97, 32, 45, 32, 98], [97, 32, 42, 32, 98], [97, 32, 38, 32, 98], [97, 32, 124, 32, 98], [97, 32, 94, 32, 98], [45, 97], [126, 97], [97, 32, 60, 60, 32, 49], [97, 32, 62, 62, 32, 54, 51]]
abbrev tx6 : List Str := [[97, 32, 60, 32, 98], [97, 32, 60, 61, 32, 98], [97, 32, 62, 32, 98], [97, 32, 62, 61, 32, 98], [97, 32, 61, 61, 32, 98], [97, 32, 33, 61, 32, 98]]
abbrev wa10 (a b : Int) : List Int := [wI (a + b), wI (a - b), wI (a * b), bI .and a b, bI .or a b, bI .xor a b, wI (0 - a), -a - 1, shI .shl a 1, shI .shr a 63]
abbrev wa6 (a b : Int) : List Bool := [decide (a < b), decide (a ≤ b), decide (b < a), decide (b ≤ a), decide (a = b), !decide (a = b)]
abbrev strC (l : List Str) : List Value := l.map fun s => .string (bs s)
theorem map_get {α : Type} (f : α → Value) {l : List α} {j : Nat} (h : j < l.length) : (l.map f)[j]? = some (f l[j]) := by rw [List.getElem?_map, List.getElem?_eq_getElem h]; rfl
theorem tx10_len : ∀ s, s ∈ tx10 → s.length ≤ 8 := by decide
theorem tx6_len : ∀ s, s ∈ tx6 → s.length ≤ 8 := by decide
theorem sums10 {a b : Int} : ∀ j (h : j < 10), evA a b (tx10[j]'h) = ((wa10 a b)[j]'h, [], 0)
  | 0, _ => s_add a b
  | 1, _ => s_sub a b
  | 2, _ => s_mul a b
  | 3, _ => s_and a b
  | 4, _ => s_or a b
  | 5, _ => s_xor a b
  | 6, _ => s_neg a b
  | 7, _ => s_not a b
  | 8, _ => s_shl a b
  | 9, _ => s_shr a b
  | j + 10, h => absurd h (by omega)
theorem sums6 {a b : Int} : ∀ j (h : j < 6), evA a b (tx6[j]'h) = (truthI ((wa6 a b)[j]'h), [], 0)
  | 0, _ => s_lt a b
  | 1, _ => s_le a b
  | 2, _ => s_gt a b
  | 3, _ => s_ge a b
  | 4, _ => s_eq a b
  | 5, _ => by
    have := s_ne a b
    rw [decide_not] at this
    exact this
  | j + 6, h => absurd h (by omega)
theorem shl1 (a : Int) : sftV .shl (.int .i64 a) (.int .u64 1) = some (.int .i64 (shI .shl a 1)) := rfl
theorem shr63 (a : Int) : sftV .shr (.int .i64 a) (.int .u64 63) = some (.int .i64 (shI .shr a 63)) := rfl
section
variable {X : Ce} {σ : AS} {R : List Ck} {k : Value → AS → Prop} {v u vv : Value} {g i : Nat} {o : Go.Obj} {l : List (Str × Str)} {s : Str} {a b : Int}
theorem abI (a b : Int) (ha : inI64 a) (hb : inI64 b) {X : Ce} {v : Value} (h : RepL X v (abV a b)) : VarsI X v (abV a b) := ⟨h, fun p hp => by
  have h1 := itoa_len ha
  have h2 := itoa_len hb
  simp only [List.mem_cons, List.not_mem_nil, or_false] at hp
  rcases hp with rfl | rfl
  · show (itoa a).length ≤ _; omega
  · show (itoa b).length ≤ _; omega⟩
theorem ab_new (ha : inI64 a) (hb : inI64 b) (h : Hs σ X R) : ∃ X', Ce.le X X' ∧ RepL X' (.slice (some ⟨σ.n, 0, none⟩) 2 2) (abV a b) ∧ Hs (σ.new (.cells [.string (bs [97]), .string (bs (itoa a)), .string (bs [98]), .string (bs (itoa b))])) X' R := by
  have l1 := itoa_len ha
  have l2 := itoa_len hb
  have m1 : ([97] : Str).length ≤ maxLen := by unfold maxLen; decide
  have m2 : ([98] : Str).length ≤ maxLen := by unfold maxLen; decide
  have m3 : (itoa a).length ≤ maxLen := by unfold maxLen; omega
  have m4 : (itoa b).length ≤ maxLen := by unfold maxLen; omega
  have r : RpL X (abV a b) [.string (bs [97]), .string (bs (itoa a)), .string (bs [98]), .string (bs (itoa b))] :=
    RpL.append (l := [(([97] : Str), itoa a)]) (m := [(([98] : Str), itoa b)]) (xs := [.string (bs [97]), .string (bs (itoa a))]) (ys := [.string (bs [98]), .string (bs (itoa b))])
      (RpL.one ⟨[.string (bs [97])], [.string (bs (itoa a))], rfl, ⟨rfl, m1⟩, ⟨rfl, m3⟩⟩) (RpL.one ⟨[.string (bs [98])], [.string (bs (itoa b))], rfl, ⟨rfl, m2⟩, ⟨rfl, m4⟩⟩)
  have h1 := (h.new (cs := [.string (bs [97]), .string (bs (itoa a)), .string (bs [98]), .string (bs (itoa b))])).lit (l := abV a b) (n := 2) r rfl (by unfold maxLen; omega)
  obtain ⟨X', le, r', h2⟩ := h1.keep
  exact ⟨X', le, r', h2⟩
theorem evA_c (L : Law X g o) (ha : inI64 a) (hb : inI64 b) (hr : RepL X vv (abV a b)) (hs : s.length ≤ 30) (h : Hs σ X [Oth g o]) {n : Int} {sets : List (Str × Int)} {e : Int} (hev : evA a b s = (n, sets, e))
    (hk : ∀ u X' σ', Ce.le X X' → RepL X' u (txts sets) → Hs σ' X' [Oth g o] → k (.tuple #[.int .i64 n, u, .int .i64 e]) σ') :
    kCall Tryd.prog 6 [.string (bs s), vv] σ k := by
  have hev2 : evalG (lookV (abV a b)) (evF s) s = (n, sets, e) := by rw [look_ab ha hb]; exact hev
  refine evalL_c L (abI a b ha hb hr) (by unfold maxLen; omega) (Nat.le_refl _) h fun u X' σ' le r h' => ?_
  rw [hev2] at r ⊢
  exact hk u X' σ' le r h'
theorem tabs (ha : inI64 a) (hb : inI64 b) (h : Hs σ X R) : ∃ X', Ce.le X X' ∧ RepL X' (.slice (some ⟨σ.n, 0, none⟩) 2 2) (abV a b) ∧ (∀ j v, (strC tx10)[j]? = some v → X' (σ.new (.cells [.string (bs [97]), .string (bs (itoa a)), .string (bs [98]), .string (bs (itoa b))])).n j = some v) ∧ (∀ j v, ((wa10 a b).map fun n => Value.int .i64 n)[j]? = some v → X' ((σ.new (.cells [.string (bs [97]), .string (bs (itoa a)), .string (bs [98]), .string (bs (itoa b))])).new (.cells [.string (bs [97, 32, 43, 32, 98]), .string (bs [97, 32, 45, 32, 98]), .string (bs [97, 32, 42, 32, 98]), .string (bs [97, 32, 38, 32, 98]), .string (bs [97, 32, 124, 32, 98]), .string (bs [97, 32, 94, 32, 98]), .string (bs [45, 97]), .string (bs [126, 97]), .string (bs [97, 32, 60, 60, 32, 49]), .string (bs [97, 32, 62, 62, 32, 54, 51])])).n j = some v) ∧
    Hs (((σ.new (.cells [.string (bs [97]), .string (bs (itoa a)), .string (bs [98]), .string (bs (itoa b))])).new (.cells [.string (bs [97, 32, 43, 32, 98]), .string (bs [97, 32, 45, 32, 98]), .string (bs [97, 32, 42, 32, 98]), .string (bs [97, 32, 38, 32, 98]), .string (bs [97, 32, 124, 32, 98]), .string (bs [97, 32, 94, 32, 98]), .string (bs [45, 97]), .string (bs [126, 97]), .string (bs [97, 32, 60, 60, 32, 49]), .string (bs [97, 32, 62, 62, 32, 54, 51])])).new (.cells [.int .i64 (IntKind.i64.wrap (a + b)), .int .i64 (IntKind.i64.wrap (a - b)), .int .i64 (IntKind.i64.wrap (a * b)), .int .i64 (bI .and a b), .int .i64 (bI .or a b), .int .i64 (bI .xor a b), .int .i64 (IntKind.i64.wrap (0 - a)), .int .i64 (-a - 1), .int .i64 (shI .shl a 1), .int .i64 (shI .shr a 63)])) X' R := by
  obtain ⟨X1, le1, r1, h3⟩ := ab_new ha hb h
  obtain ⟨X2, le2, c2, h4⟩ := (h3.new (cs := strC tx10)).freeze
  obtain ⟨X3, le3, c3, h5⟩ := (h4.new (cs := (wa10 a b).map fun n => .int .i64 n)).freeze
  exact ⟨X3, Ce.le_trans (Ce.le_trans le1 le2) le3, (r1.mono le2).mono le3, fun j v hv => le3 _ _ _ (c2 j v hv), fun j v hv => c3 j v hv, h5⟩
theorem tabs6 (h : Hs σ X R) : ∃ X', Ce.le X X' ∧ (∀ j v, (strC tx6)[j]? = some v → X' σ.n j = some v) ∧ (∀ j v, ((wa6 a b).map fun n => Value.bool n)[j]? = some v → X' (σ.new (.cells [.string (bs [97, 32, 60, 32, 98]), .string (bs [97, 32, 60, 61, 32, 98]), .string (bs [97, 32, 62, 32, 98]), .string (bs [97, 32, 62, 61, 32, 98]), .string (bs [97, 32, 61, 61, 32, 98]), .string (bs [97, 32, 33, 61, 32, 98])])).n j = some v) ∧
    Hs ((σ.new (.cells [.string (bs [97, 32, 60, 32, 98]), .string (bs [97, 32, 60, 61, 32, 98]), .string (bs [97, 32, 62, 32, 98]), .string (bs [97, 32, 62, 61, 32, 98]), .string (bs [97, 32, 61, 61, 32, 98]), .string (bs [97, 32, 33, 61, 32, 98])])).new (.cells [.bool (decide (a < b)), .bool (decide (a ≤ b)), .bool (decide (b < a)), .bool (decide (b ≤ a)), .bool (decide (a = b)), .bool (!decide (a = b))])) X' R := by
  obtain ⟨X2, le2, c2, h4⟩ := (h.new (cs := strC tx6)).freeze
  obtain ⟨X3, le3, c3, h5⟩ := (h4.new (cs := (wa6 a b).map fun n => .bool n)).freeze
  exact ⟨X3, Ce.le_trans le2 le3, fun j v hv => le3 _ _ _ (c2 j v hv), fun j v hv => c3 j v hv, h5⟩
theorem sums_walk (L : Law X g o) (ha : inI64 a) (hb : inI64 b) (h : Hs σ X [Oth g o]) (hk : ∀ X' σ', Ce.le X X' → Hs σ' X' [Oth g o] → k (.bool true) σ') : kCall Tryd.prog 3 [.int .i64 a, .int .i64 b] σ k := by
  refine f3 ?_
  (try simp (maxSteps := 1000000) (dsimp := false) (disch := (first | omega | (simp only [okR]; done) | (simp only [sizeR] <;> omega) | fail)) only [↓preR, postR, ↓w_stop, Nat.reduceEqDiff, Nat.reduceAdd, Nat.reduceSub, Nat.reduceMul, Int.reduceNeg, Nat.reduceLT, Int.reduceToNat, Nat.reduceLeDiff, Nat.sub_zero, F3])
  refine text_c L.t ha 0 h rfl fun s1 h1 => ?_
  (try simp (maxSteps := 1000000) (dsimp := false) (disch := (first | omega | (simp only [okR]; done) | (simp only [sizeR] <;> omega) | fail)) only [↓preR, postR, ↓w_stop, Nat.reduceEqDiff, Nat.reduceAdd, Nat.reduceSub, Nat.reduceMul, Int.reduceNeg, Nat.reduceLT, Int.reduceToNat, Nat.reduceLeDiff, Nat.sub_zero])
  refine text_c L.t hb 0 h1 rfl fun s2 h2 => ?_
  (try simp (maxSteps := 1000000) (dsimp := false) (disch := (first | omega | (simp only [okR]; done) | (simp only [sizeR] <;> omega) | fail)) only [↓preR, postR, ↓w_stop, Nat.reduceEqDiff, Nat.reduceAdd, Nat.reduceSub, Nat.reduceMul, Int.reduceNeg, Nat.reduceLT, Int.reduceToNat, Nat.reduceLeDiff, Nat.sub_zero])
  have hx := xorI ha
  (try simp (maxSteps := 1000000) (dsimp := false) (disch := (first | omega | (simp only [okR]; done) | (simp only [sizeR] <;> omega) | fail)) only [↓preR, postR, ↓w_stop, Nat.reduceEqDiff, Nat.reduceAdd, Nat.reduceSub, Nat.reduceMul, Int.reduceNeg, Nat.reduceLT, Int.reduceToNat, Nat.reduceLeDiff, Nat.sub_zero, and_v, or_v, xor_v, hx, shl1, shr63])
  refine join_by fun J1 hJ1 => ?_
  obtain ⟨X3, le3, r3, c2, c3, h5⟩ := tabs ha hb h2
  generalize AS.new (AS.new (AS.new s2 _) _) _ = s3 at h5 ⊢
  generalize AS.n (AS.new (AS.new s2 _) _) = q2 at c3 ⊢
  generalize AS.n (AS.new s2 _) = q1 at c2 ⊢
  have L3 := L.mono le3
  have tail : ∀ X4 s4, Ce.le X3 X4 → Hs s4 X4 [Oth g o] → J1 [] s4 := by
    intro X4 s4 le4 h6
    refine hJ1 _ _ ?_
    clear hJ1
    (try simp (maxSteps := 1000000) (dsimp := false) (disch := (first | omega | (simp only [okR]; done) | (simp only [sizeR] <;> omega) | fail)) only [↓preR, postR, ↓w_stop, Nat.reduceEqDiff, Nat.reduceAdd, Nat.reduceSub, Nat.reduceMul, Int.reduceNeg, Nat.reduceLT, Int.reduceToNat, Nat.reduceLeDiff, Nat.sub_zero])
    refine join_by fun J2 hJ2 => ?_
    obtain ⟨X5, le5, c5, c6, h7⟩ := tabs6 (a := a) (b := b) h6
    generalize AS.new (AS.new s4 _) _ = s5 at h7 ⊢
    generalize AS.n (AS.new s4 _) = q4 at c6 ⊢
    generalize s4.n = q3 at c5 ⊢
    have L5 := (L3.mono le4).mono le5
    have r5 := (r3.mono le4).mono le5
    have le35 := Ce.le_trans le4 le5
    have tail : ∀ X6 s6, Ce.le X5 X6 → Hs s6 X6 [Oth g o] → J2 [] s6 := by
      intro X6 s6 le6 h8
      refine hJ2 _ _ ?_
      clear hJ2
      have le6' := Ce.le_trans le3 (Ce.le_trans le35 le6)
      (try simp (maxSteps := 1000000) (dsimp := false) (disch := (first | omega | (simp only [okR]; done) | (simp only [sizeR] <;> omega) | fail)) only [↓preR, postR, ↓w_stop, Nat.reduceEqDiff, Nat.reduceAdd, Nat.reduceSub, Nat.reduceMul, Int.reduceNeg, Nat.reduceLT, Int.reduceToNat, Nat.reduceLeDiff, Nat.sub_zero])
      refine join_by fun J3 hJ3 => ?_
      by_cases hb0 : b = 0
      · subst hb0
        (try simp (maxSteps := 1000000) (dsimp := false) (disch := (first | omega | (simp only [okR]; done) | (simp only [sizeR] <;> omega) | fail)) only [↓preR, postR, ↓w_stop, Nat.reduceEqDiff, Nat.reduceAdd, Nat.reduceSub, Nat.reduceMul, Int.reduceNeg, Nat.reduceLT, Int.reduceToNat, Nat.reduceLeDiff, Nat.sub_zero])
        refine evA_c (L5.mono le6) ha hb (r5.mono le6) (by decide) h8 (s_rem0 a) fun u X7 s7 le7 _ h9 => ?_
        (try simp (maxSteps := 1000000) (dsimp := false) (disch := (first | omega | (simp only [okR]; done) | (simp only [sizeR] <;> omega) | fail)) only [↓preR, postR, ↓w_stop, Nat.reduceEqDiff, Nat.reduceAdd, Nat.reduceSub, Nat.reduceMul, Int.reduceNeg, Nat.reduceLT, Int.reduceToNat, Nat.reduceLeDiff, Nat.sub_zero])
        refine awake_c ((L5.mono le6).mono le7) h9 fun X8 s8 le8 h10 => ?_
        (try simp (maxSteps := 1000000) (dsimp := false) (disch := (first | omega | (simp only [okR]; done) | (simp only [sizeR] <;> omega) | fail)) only [↓preR, postR, ↓w_stop, Nat.reduceEqDiff, Nat.reduceAdd, Nat.reduceSub, Nat.reduceMul, Int.reduceNeg, Nat.reduceLT, Int.reduceToNat, Nat.reduceLeDiff, Nat.sub_zero])
        exact hk _ _ (Ce.le_trans (Ce.le_trans le6' le7) le8) h10
      · (try simp (maxSteps := 1000000) (dsimp := false) (disch := (first | omega | (simp only [okR]; done) | (simp only [sizeR] <;> omega) | fail)) only [↓preR, postR, ↓w_stop, Nat.reduceEqDiff, Nat.reduceAdd, Nat.reduceSub, Nat.reduceMul, Int.reduceNeg, Nat.reduceLT, Int.reduceToNat, Nat.reduceLeDiff, Nat.sub_zero, hb0])
        refine hJ3 _ _ ?_
        obtain ⟨q, hq⟩ : ∃ q, doP [47] a b = (q, 0) := by
          rw [do_quo, if_neg hb0]
          split <;> exact ⟨_, rfl⟩
        obtain ⟨r, hr⟩ : ∃ r, doP [37] a b = (r, 0) := by
          rw [do_rem, if_neg hb0]
          split <;> exact ⟨_, rfl⟩
        have hz := div_zero a b ha hb hb0 hq hr
        have hev := s_div a b hq hr
        rw [hz] at hev
        (try simp (maxSteps := 1000000) (dsimp := false) (disch := (first | omega | (simp only [okR]; done) | (simp only [sizeR] <;> omega) | fail)) only [↓preR, postR, ↓w_stop, Nat.reduceEqDiff, Nat.reduceAdd, Nat.reduceSub, Nat.reduceMul, Int.reduceNeg, Nat.reduceLT, Int.reduceToNat, Nat.reduceLeDiff, Nat.sub_zero])
        refine evA_c (L5.mono le6) ha hb (r5.mono le6) (by decide) h8 hev fun u X7 s7 le7 _ h9 => ?_
        (try simp (maxSteps := 1000000) (dsimp := false) (disch := (first | omega | (simp only [okR]; done) | (simp only [sizeR] <;> omega) | fail)) only [↓preR, postR, ↓w_stop, Nat.reduceEqDiff, Nat.reduceAdd, Nat.reduceSub, Nat.reduceMul, Int.reduceNeg, Nat.reduceLT, Int.reduceToNat, Nat.reduceLeDiff, Nat.sub_zero])
        refine awake_c ((L5.mono le6).mono le7) h9 fun X8 s8 le8 h10 => ?_
        (try simp (maxSteps := 1000000) (dsimp := false) (disch := (first | omega | (simp only [okR]; done) | (simp only [sizeR] <;> omega) | fail)) only [↓preR, postR, ↓w_stop, Nat.reduceEqDiff, Nat.reduceAdd, Nat.reduceSub, Nat.reduceMul, Int.reduceNeg, Nat.reduceLT, Int.reduceToNat, Nat.reduceLeDiff, Nat.sub_zero])
        exact hk _ _ (Ce.le_trans (Ce.le_trans le6' le7) le8) h10
    clear hJ2
    refine loop_inv (fun nn xs s => ∃ (j : Nat) (X6 : Ce), xs = [.int .i64 j] ∧ j ≤ 6 ∧ Ce.le X5 X6 ∧ Hs s X6 [Oth g o] ∧ nn = 6 - j) _ ⟨0, X5, rfl, by omega, Ce.le_refl _, h7, rfl⟩ ?_
    rintro _ _ s6 again ⟨j, X6, rfl, hj, le6, h8, rfl⟩ hag
    (try simp (maxSteps := 1000000) (dsimp := false) (disch := (first | omega | (simp only [okR]; done) | (simp only [sizeR] <;> omega) | fail)) only [↓preR, postR, ↓w_stop, Nat.reduceEqDiff, Nat.reduceAdd, Nat.reduceSub, Nat.reduceMul, Int.reduceNeg, Nat.reduceLT, Int.reduceToNat, Nat.reduceLeDiff, Nat.sub_zero])
    refine join_now ?_
    by_cases hlt : j < 6
    · have d2 := h8.ldx (le6 _ _ _ (c5 j (.string (bs (tx6[j]'hlt))) (map_get (fun s => Value.string (bs s)) (l := tx6) hlt)))
      have d3 := c6 j (.bool ((wa6 a b)[j]'hlt)) (map_get (fun n => Value.bool n) (l := wa6 a b) hlt)
      have hev := sums6 (a := a) (b := b) j hlt
      have hl := tx6_len (tx6[j]'hlt) (List.getElem_mem hlt)
      generalize (tx6[j]'hlt) = tj at d2 hev hl
      generalize ((wa6 a b)[j]'hlt) = wj at d3 hev
      (try simp (maxSteps := 1000000) (dsimp := false) (disch := (first | omega | (simp only [okR]; done) | (simp only [sizeR] <;> omega) | fail)) only [↓preR, postR, ↓w_stop, Nat.reduceEqDiff, Nat.reduceAdd, Nat.reduceSub, Nat.reduceMul, Int.reduceNeg, Nat.reduceLT, Int.reduceToNat, Nat.reduceLeDiff, Nat.sub_zero, d2])
      refine join_now ?_
      (try simp (maxSteps := 1000000) (dsimp := false) (disch := (first | omega | (simp only [okR]; done) | (simp only [sizeR] <;> omega) | fail)) only [↓preR, postR, ↓w_stop, Nat.reduceEqDiff, Nat.reduceAdd, Nat.reduceSub, Nat.reduceMul, Int.reduceNeg, Nat.reduceLT, Int.reduceToNat, Nat.reduceLeDiff, Nat.sub_zero, d2])
      refine evA_c (L5.mono le6) ha hb (r5.mono le6) (by omega) h8 hev fun u X7 s7 le7 r7 h9 => ?_
      have d3 := h9.ldx (le7 _ _ _ (le6 _ _ _ d3))
      have nx := hag (6 - (j + 1)) [.int .i64 ((j + 1 : Nat) : Int)] s7 ⟨j + 1, X7, rfl, hlt, Ce.le_trans le6 le7, h9, rfl⟩ (by omega)
      cases wj with
      | true =>
        have e1 : truthI true = 1 := rfl
        (try simp (maxSteps := 1000000) (dsimp := false) (disch := (first | omega | (simp only [okR]; done) | (simp only [sizeR] <;> omega) | fail)) only [↓preR, postR, ↓w_stop, Nat.reduceEqDiff, Nat.reduceAdd, Nat.reduceSub, Nat.reduceMul, Int.reduceNeg, Nat.reduceLT, Int.reduceToNat, Nat.reduceLeDiff, Nat.sub_zero, d3, e1])
        exact nx
      | false =>
        have e1 : truthI false = 0 := rfl
        (try simp (maxSteps := 1000000) (dsimp := false) (disch := (first | omega | (simp only [okR]; done) | (simp only [sizeR] <;> omega) | fail)) only [↓preR, postR, ↓w_stop, Nat.reduceEqDiff, Nat.reduceAdd, Nat.reduceSub, Nat.reduceMul, Int.reduceNeg, Nat.reduceLT, Int.reduceToNat, Nat.reduceLeDiff, Nat.sub_zero, d3, e1])
        exact nx
    · (try simp (maxSteps := 1000000) (dsimp := false) (disch := (first | omega | (simp only [okR]; done) | (simp only [sizeR] <;> omega) | fail)) only [↓preR, postR, ↓w_stop, Nat.reduceEqDiff, Nat.reduceAdd, Nat.reduceSub, Nat.reduceMul, Int.reduceNeg, Nat.reduceLT, Int.reduceToNat, Nat.reduceLeDiff, Nat.sub_zero])
      exact tail X6 s6 le6 h8
  clear hJ1
  refine loop_inv (fun nn xs s => ∃ (j : Nat) (X4 : Ce), xs = [.int .i64 j] ∧ j ≤ 10 ∧ Ce.le X3 X4 ∧ Hs s X4 [Oth g o] ∧ nn = 10 - j) _ ⟨0, X3, rfl, by omega, Ce.le_refl _, h5, rfl⟩ ?_
  rintro _ _ s4 again ⟨j, X4, rfl, hj, le4, h6, rfl⟩ hag
  (try simp (maxSteps := 1000000) (dsimp := false) (disch := (first | omega | (simp only [okR]; done) | (simp only [sizeR] <;> omega) | fail)) only [↓preR, postR, ↓w_stop, Nat.reduceEqDiff, Nat.reduceAdd, Nat.reduceSub, Nat.reduceMul, Int.reduceNeg, Nat.reduceLT, Int.reduceToNat, Nat.reduceLeDiff, Nat.sub_zero])
  refine join_now ?_
  by_cases hlt : j < 10
  · have d2 := h6.ldx (le4 _ _ _ (c2 j (.string (bs (tx10[j]'hlt))) (map_get (fun s => Value.string (bs s)) (l := tx10) hlt)))
    have d3 := c3 j (.int .i64 ((wa10 a b)[j]'hlt)) (map_get (fun n => Value.int .i64 n) (l := wa10 a b) hlt)
    have hev := sums10 (a := a) (b := b) j hlt
    have hl := tx10_len (tx10[j]'hlt) (List.getElem_mem hlt)
    generalize (tx10[j]'hlt) = tj at d2 hev hl
    generalize ((wa10 a b)[j]'hlt) = wj at d3 hev
    (try simp (maxSteps := 1000000) (dsimp := false) (disch := (first | omega | (simp only [okR]; done) | (simp only [sizeR] <;> omega) | fail)) only [↓preR, postR, ↓w_stop, Nat.reduceEqDiff, Nat.reduceAdd, Nat.reduceSub, Nat.reduceMul, Int.reduceNeg, Nat.reduceLT, Int.reduceToNat, Nat.reduceLeDiff, Nat.sub_zero, d2])
    refine join_now ?_
    (try simp (maxSteps := 1000000) (dsimp := false) (disch := (first | omega | (simp only [okR]; done) | (simp only [sizeR] <;> omega) | fail)) only [↓preR, postR, ↓w_stop, Nat.reduceEqDiff, Nat.reduceAdd, Nat.reduceSub, Nat.reduceMul, Int.reduceNeg, Nat.reduceLT, Int.reduceToNat, Nat.reduceLeDiff, Nat.sub_zero, d2])
    refine evA_c (L3.mono le4) ha hb (r3.mono le4) (by omega) h6 hev fun u X5 s5 le5 r5 h7 => ?_
    obtain ⟨va, vcap, rfl, _⟩ := r5.val
    have d3 := h7.ldx (le5 _ _ _ (le4 _ _ _ d3))
    have e0 : ((txts []).length : Int) = 0 := rfl
    (try simp (maxSteps := 1000000) (dsimp := false) (disch := (first | omega | (simp only [okR]; done) | (simp only [sizeR] <;> omega) | fail)) only [↓preR, postR, ↓w_stop, Nat.reduceEqDiff, Nat.reduceAdd, Nat.reduceSub, Nat.reduceMul, Int.reduceNeg, Nat.reduceLT, Int.reduceToNat, Nat.reduceLeDiff, Nat.sub_zero, d3, e0])
    exact hag _ _ _ ⟨j + 1, X5, rfl, hlt, Ce.le_trans le4 le5, h7, rfl⟩ (by omega)
  · (try simp (maxSteps := 1000000) (dsimp := false) (disch := (first | omega | (simp only [okR]; done) | (simp only [sizeR] <;> omega) | fail)) only [↓preR, postR, ↓w_stop, Nat.reduceEqDiff, Nat.reduceAdd, Nat.reduceSub, Nat.reduceMul, Int.reduceNeg, Nat.reduceLT, Int.reduceToNat, Nat.reduceLeDiff, Nat.sub_zero])
    exact tail X4 s4 le4 h6
theorem one_get {X : Ce} {v : Value} {nm : Str} {n : Int} (h : RepL X v (txts [(nm, n)])) : ∃ q o c, v = .slice (some ⟨q, o, none⟩) 1 c ∧ 1 ≤ c ∧ c ≤ maxLen ∧ X q o = some (.string (bs nm)) ∧ X q (o + 1) = some (.string (bs (itoa n))) := by
  obtain ⟨va, vb, vo, vcap, rfl, hc, hm, hat⟩ := pair_at h
  obtain ⟨rfl, c0, c1, _⟩ := hat 0 (show 0 < 1 by omega)
  rw [Nat.zero_mul, Nat.add_zero] at c0 c1
  exact ⟨vb, vo, vcap, rfl, hc, hm, c0, c1⟩
theorem sets_walk (L : Law X g o) (ha : inI64 a) (hb : inI64 b) (h : Hs σ X [Oth g o]) (hk : ∀ X' σ', Ce.le X X' → Hs σ' X' [Oth g o] → k (.bool true) σ') : kCall Tryd.prog 4 [.int .i64 a, .int .i64 b] σ k := by
  refine f4 ?_
  (try simp (maxSteps := 1000000) (dsimp := false) (disch := (first | omega | (simp only [okR]; done) | (simp only [sizeR] <;> omega) | fail)) only [↓preR, postR, ↓w_stop, Nat.reduceEqDiff, Nat.reduceAdd, Nat.reduceSub, Nat.reduceMul, Int.reduceNeg, Nat.reduceLT, Int.reduceToNat, Nat.reduceLeDiff, Nat.sub_zero, F4])
  refine text_c L.t ha 0 h rfl fun s1 h1 => ?_
  (try simp (maxSteps := 1000000) (dsimp := false) (disch := (first | omega | (simp only [okR]; done) | (simp only [sizeR] <;> omega) | fail)) only [↓preR, postR, ↓w_stop, Nat.reduceEqDiff, Nat.reduceAdd, Nat.reduceSub, Nat.reduceMul, Int.reduceNeg, Nat.reduceLT, Int.reduceToNat, Nat.reduceLeDiff, Nat.sub_zero])
  refine text_c L.t hb 0 h1 rfl fun s2 h2 => ?_
  (try simp (maxSteps := 1000000) (dsimp := false) (disch := (first | omega | (simp only [okR]; done) | (simp only [sizeR] <;> omega) | fail)) only [↓preR, postR, ↓w_stop, Nat.reduceEqDiff, Nat.reduceAdd, Nat.reduceSub, Nat.reduceMul, Int.reduceNeg, Nat.reduceLT, Int.reduceToNat, Nat.reduceLeDiff, Nat.sub_zero])
  obtain ⟨X1, le1, r1, h3⟩ := ab_new ha hb h2
  refine evA_c (L.mono le1) ha hb r1 (by decide) h3 (t_set a b) fun u X2 s4 le2 r2 h4 => ?_
  have L2 := (L.mono le1).mono le2
  have le02 := Ce.le_trans le1 le2
  have ab2 := r1.mono le2
  obtain ⟨q, qo, qc, rfl, qc1, qc2, d0, d1⟩ := one_get r2
  unfold maxLen at qc2
  have g0 := h4.ldx d0
  have g1 := h4.ldx d1
  have wab : IntKind.i64.wrap (a - b) = wI (a - b) := rfl
  (try simp (maxSteps := 1000000) (dsimp := false) (disch := (first | omega | (simp only [okR]; done) | (simp only [sizeR] <;> omega) | fail)) only [↓preR, postR, ↓w_stop, Nat.reduceEqDiff, Nat.reduceAdd, Nat.reduceSub, Nat.reduceMul, Int.reduceNeg, Nat.reduceLT, Int.reduceToNat, Nat.reduceLeDiff, Nat.sub_zero])
  refine join_by fun J1 hJ1 => ?_
  (try simp (maxSteps := 1000000) (dsimp := false) (disch := (first | omega | (simp only [okR]; done) | (simp only [sizeR] <;> omega) | fail)) only [↓preR, postR, ↓w_stop, Nat.reduceEqDiff, Nat.reduceAdd, Nat.reduceSub, Nat.reduceMul, Int.reduceNeg, Nat.reduceLT, Int.reduceToNat, Nat.reduceLeDiff, Nat.sub_zero, wab, g0, g1])
  refine text_c L2.t (wI_in _) 0 h4 rfl fun s5 h5 => ?_
  have g1' := h5.ldx d1
  (try simp (maxSteps := 1000000) (dsimp := false) (disch := (first | omega | (simp only [okR]; done) | (simp only [sizeR] <;> omega) | fail)) only [↓preR, postR, ↓w_stop, Nat.reduceEqDiff, Nat.reduceAdd, Nat.reduceSub, Nat.reduceMul, Int.reduceNeg, Nat.reduceLT, Int.reduceToNat, Nat.reduceLeDiff, Nat.sub_zero, g1', g1])
  refine hJ1 _ _ ?_
  clear hJ1
  (try simp (maxSteps := 1000000) (dsimp := false) (disch := (first | omega | (simp only [okR]; done) | (simp only [sizeR] <;> omega) | fail)) only [↓preR, postR, ↓w_stop, Nat.reduceEqDiff, Nat.reduceAdd, Nat.reduceSub, Nat.reduceMul, Int.reduceNeg, Nat.reduceLT, Int.reduceToNat, Nat.reduceLeDiff, Nat.sub_zero])
  refine evA_c L2 ha hb ab2 (by decide) h5 (t_add a b) fun u X3 s6 le3 r3 h6 => ?_
  have L3 := L2.mono le3
  have le03 := Ce.le_trans le02 le3
  have ab3 := ab2.mono le3
  obtain ⟨q, qo, qc, rfl, qc1, qc2, d0, d1⟩ := one_get r3
  unfold maxLen at qc2
  have g0 := h6.ldx d0
  have g1 := h6.ldx d1
  have wab2 : IntKind.i64.wrap (a + b) = wI (a + b) := rfl
  have wz : wI (wI (a + b) - wI (a + b)) = 0 := by rw [Int.sub_self]; rfl
  (try simp (maxSteps := 1000000) (dsimp := false) (disch := (first | omega | (simp only [okR]; done) | (simp only [sizeR] <;> omega) | fail)) only [↓preR, postR, ↓w_stop, Nat.reduceEqDiff, Nat.reduceAdd, Nat.reduceSub, Nat.reduceMul, Int.reduceNeg, Nat.reduceLT, Int.reduceToNat, Nat.reduceLeDiff, Nat.sub_zero])
  refine join_by fun J2 hJ2 => ?_
  (try simp (maxSteps := 1000000) (dsimp := false) (disch := (first | omega | (simp only [okR]; done) | (simp only [sizeR] <;> omega) | fail)) only [↓preR, postR, ↓w_stop, Nat.reduceEqDiff, Nat.reduceAdd, Nat.reduceSub, Nat.reduceMul, Int.reduceNeg, Nat.reduceLT, Int.reduceToNat, Nat.reduceLeDiff, Nat.sub_zero, wz, wab2, g0, g1])
  refine text_c L3.t (wI_in _) 0 h6 rfl fun s7 h7 => ?_
  have g1' := h7.ldx d1
  (try simp (maxSteps := 1000000) (dsimp := false) (disch := (first | omega | (simp only [okR]; done) | (simp only [sizeR] <;> omega) | fail)) only [↓preR, postR, ↓w_stop, Nat.reduceEqDiff, Nat.reduceAdd, Nat.reduceSub, Nat.reduceMul, Int.reduceNeg, Nat.reduceLT, Int.reduceToNat, Nat.reduceLeDiff, Nat.sub_zero, g1', g1])
  refine hJ2 _ _ ?_
  clear hJ2
  (try simp (maxSteps := 1000000) (dsimp := false) (disch := (first | omega | (simp only [okR]; done) | (simp only [sizeR] <;> omega) | fail)) only [↓preR, postR, ↓w_stop, Nat.reduceEqDiff, Nat.reduceAdd, Nat.reduceSub, Nat.reduceMul, Int.reduceNeg, Nat.reduceLT, Int.reduceToNat, Nat.reduceLeDiff, Nat.sub_zero])
  have third : ∃ nm, evA a b [97, 32, 63, 32, 40, 120, 32, 61, 32, 98, 41, 32, 58, 32, 40, 121, 32, 61, 32, 98, 41] = (b, [(nm, b)], 0) ∧ decide (nm = [120]) = decide (¬ a = 0) := by
    by_cases h0 : a = 0
    · subst h0
      exact ⟨[121], t_ch0 b, by decide⟩
    · exact ⟨[120], t_chN a b h0, by rw [decide_eq_true h0]; rfl⟩
  obtain ⟨nm, hev, hnm⟩ := third
  refine evA_c L3 ha hb ab3 (by decide) h7 hev fun u X4 s8 le4 r4 h8 => ?_
  have L4 := L3.mono le4
  have le04 := Ce.le_trans le03 le4
  have ab4 := ab3.mono le4
  obtain ⟨q, qo, qc, rfl, qc1, qc2, d0, d1⟩ := one_get r4
  unfold maxLen at qc2
  have g0 := h8.ldx d0
  (try simp (maxSteps := 1000000) (dsimp := false) (disch := (first | omega | (simp only [okR]; done) | (simp only [sizeR] <;> omega) | fail)) only [↓preR, postR, ↓w_stop, Nat.reduceEqDiff, Nat.reduceAdd, Nat.reduceSub, Nat.reduceMul, Int.reduceNeg, Nat.reduceLT, Int.reduceToNat, Nat.reduceLeDiff, Nat.sub_zero])
  refine join_by fun J3 hJ3 => ?_
  have tail : J3 [] s8 := by
    refine hJ3 _ _ ?_
    (try simp (maxSteps := 1000000) (dsimp := false) (disch := (first | omega | (simp only [okR]; done) | (simp only [sizeR] <;> omega) | fail)) only [↓preR, postR, ↓w_stop, Nat.reduceEqDiff, Nat.reduceAdd, Nat.reduceSub, Nat.reduceMul, Int.reduceNeg, Nat.reduceLT, Int.reduceToNat, Nat.reduceLeDiff, Nat.sub_zero])
    refine evA_c L4 ha hb ab4 (by decide) h8 (t_or a b) fun u X5 s9 le5 r5 h9 => ?_
    obtain ⟨va, vcap, rfl, _⟩ := r5.val
    have e0 : ((txts []).length : Int) = 0 := rfl
    (try simp (maxSteps := 1000000) (dsimp := false) (disch := (first | omega | (simp only [okR]; done) | (simp only [sizeR] <;> omega) | fail)) only [↓preR, postR, ↓w_stop, Nat.reduceEqDiff, Nat.reduceAdd, Nat.reduceSub, Nat.reduceMul, Int.reduceNeg, Nat.reduceLT, Int.reduceToNat, Nat.reduceLeDiff, Nat.sub_zero, e0])
    refine awake_c (L4.mono le5) h9 fun X6 s10 le6 h10 => ?_
    (try simp (maxSteps := 1000000) (dsimp := false) (disch := (first | omega | (simp only [okR]; done) | (simp only [sizeR] <;> omega) | fail)) only [↓preR, postR, ↓w_stop, Nat.reduceEqDiff, Nat.reduceAdd, Nat.reduceSub, Nat.reduceMul, Int.reduceNeg, Nat.reduceLT, Int.reduceToNat, Nat.reduceLeDiff, Nat.sub_zero])
    exact hk _ _ (Ce.le_trans (Ce.le_trans le04 le5) le6) h10
  clear hJ3
  by_cases h0 : a = 0
  · have hn : ¬ nm = [120] := by
      have e9 : decide (¬ a = 0) = false := decide_eq_false (fun h => h h0)
      rw [e9] at hnm
      exact of_decide_eq_false hnm
    (try simp (maxSteps := 1000000) (dsimp := false) (disch := (first | omega | (simp only [okR]; done) | (simp only [sizeR] <;> omega) | fail)) only [↓preR, postR, ↓w_stop, Nat.reduceEqDiff, Nat.reduceAdd, Nat.reduceSub, Nat.reduceMul, Int.reduceNeg, Nat.reduceLT, Int.reduceToNat, Nat.reduceLeDiff, Nat.sub_zero, g0, h0, hn])
    exact tail
  · have hn : nm = [120] := by
      have e9 : decide (¬ a = 0) = true := decide_eq_true h0
      rw [e9] at hnm
      exact of_decide_eq_true hnm
    (try simp (maxSteps := 1000000) (dsimp := false) (disch := (first | omega | (simp only [okR]; done) | (simp only [sizeR] <;> omega) | fail)) only [↓preR, postR, ↓w_stop, Nat.reduceEqDiff, Nat.reduceAdd, Nat.reduceSub, Nat.reduceMul, Int.reduceNeg, Nat.reduceLT, Int.reduceToNat, Nat.reduceLeDiff, Nat.sub_zero, g0, h0, hn])
    exact tail
theorem sums_law {W : World} {te te2 : Nat} {pe pe2 v0 v1 : Value} (T : VarAt Tryd.prog "internal/strconv.uint64pow10" g o powV) (ho : W.heap[g]? = some o) (hE : W.cell? ⟨7, 0, none⟩ = some (.iface te pe)) (hS : W.cell? ⟨6, 0, none⟩ = some (.iface te2 pe2))
    (A0 : OV (E.start W).c (shOf Tryd.prog 8 3) v0) (A1 : OV (E.start W).c (shOf Tryd.prog 8 3) v1) : callP Tryd.prog 3 [v0, v1] W fun v w' => v = .bool true ∧ KeepP (fun _ => False) W w' := by
  rw [show shOf Tryd.prog 8 3 = .int .i64 from by kernel_rfl] at A0 A1
  obtain ⟨a, rfl, ha⟩ := arg_int A0
  obtain ⟨b, rfl, hb⟩ := arg_int A1
  exact law_st T ho hE hS fun σ L h => sums_walk L ha hb h fun X' σ' _ h' => ⟨rfl, X', h'⟩
theorem sets_law {W : World} {te te2 : Nat} {pe pe2 v0 v1 : Value} (T : VarAt Tryd.prog "internal/strconv.uint64pow10" g o powV) (ho : W.heap[g]? = some o) (hE : W.cell? ⟨7, 0, none⟩ = some (.iface te pe)) (hS : W.cell? ⟨6, 0, none⟩ = some (.iface te2 pe2))
    (A0 : OV (E.start W).c (shOf Tryd.prog 8 3) v0) (A1 : OV (E.start W).c (shOf Tryd.prog 8 3) v1) : callP Tryd.prog 4 [v0, v1] W fun v w' => v = .bool true ∧ KeepP (fun _ => False) W w' := by
  rw [show shOf Tryd.prog 8 3 = .int .i64 from by kernel_rfl] at A0 A1
  obtain ⟨a, rfl, ha⟩ := arg_int A0
  obtain ⟨b, rfl, hb⟩ := arg_int A1
  exact law_st T ho hE hS fun σ L h => sets_walk L ha hb h fun X' σ' _ h' => ⟨rfl, X', h'⟩
end
end Go.Proofs.YtkbpbagjbjkpmaaDoor
