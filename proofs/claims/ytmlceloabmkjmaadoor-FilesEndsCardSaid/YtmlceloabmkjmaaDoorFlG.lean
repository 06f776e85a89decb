/- Open files: what is appended; what is written and read, piece by piece. Conditions: none. -/
import Derived.Test.YtmlceloabmkjmaaDoorFlF
namespace Go.Proofs.YtmlceloabmkjmaaDoor
open E Go.Lib
set_option linter.unusedVariables false
set_option linter.unusedSimpArgs false
set_option maxHeartbeats 1000000
set_option maxRecDepth 20000

theorem take_flat (l : List (List UInt8)) (j : Nat) (hj : j < l.length) : (l.take (j + 1)).flatten = (l.take j).flatten ++ l[j] := by
  rw [List.take_succ_eq_append_getElem hj, List.flatten_append]; simp
section
variable {σ σ' : AS} {X : Ce} {R : List Ck} {k : Value → AS → Prop} {f N x n : Nat} {nl : List (Str × Value)} {s s2 data t all piece : List UInt8} {V V' : TV} {hs : List Bool}
theorem ends_walk {va vb : Value} {l : List Str} {who : List Bool} (h : Hs σ X R) (hl : RepL X va l) (hb : RepL X vb who) : kCall Tryd.prog 4 [va, vb] σ fun v _ => v = .bool true := by
  obtain ⟨a1, b1, o1, c1, rfl, hc1, hm1, at1⟩ := strs_at hl
  obtain ⟨a2, b2, o2, c2, rfl, hc2, hm2, at2⟩ := bools_in hb
  refine f4 ?_
  unfold maxLen at hm1 hm2
  (try simp (maxSteps := 1000000) (dsimp := false) (disch := (first | omega | (simp only [okR]; done) | (simp only [sizeR] <;> omega) | fail)) only [↓preR, postR, ↓w_stop, Nat.reduceEqDiff, Nat.reduceAdd, Nat.reduceSub, Nat.reduceMul, Int.reduceNeg, Nat.reduceLT, Int.reduceToNat, Nat.reduceLeDiff, Nat.sub_zero, F4])
  refine fnew_c 1 (by decide) rfl (by decide) (by decide) h fun f σ1 h1 => ?_
  by_cases g1 : l.length ≤ 20
  rotate_left
  · (try simp (maxSteps := 1000000) (dsimp := false) (disch := (first | omega | (simp only [okR]; done) | (simp only [sizeR] <;> omega) | fail)) only [↓preR, postR, ↓w_join, Nat.reduceEqDiff, Nat.reduceAdd, Nat.reduceSub, Nat.reduceMul, Int.reduceNeg, Nat.reduceLT, Int.reduceToNat, Nat.reduceLeDiff, Nat.sub_zero])
    refine awake_c h1 fun σ' => ?_
    (try simp (maxSteps := 1000000) (dsimp := false) (disch := (first | omega | (simp only [okR]; done) | (simp only [sizeR] <;> omega) | fail)) only [↓preR, postR, ↓w_join, Nat.reduceEqDiff, Nat.reduceAdd, Nat.reduceSub, Nat.reduceMul, Int.reduceNeg, Nat.reduceLT, Int.reduceToNat, Nat.reduceLeDiff, Nat.sub_zero])
  (try simp (maxSteps := 1000000) (dsimp := false) (disch := (first | omega | (simp only [okR]; done) | (simp only [sizeR] <;> omega) | fail)) only [↓preR, postR, ↓w_stop, Nat.reduceEqDiff, Nat.reduceAdd, Nat.reduceSub, Nat.reduceMul, Int.reduceNeg, Nat.reduceLT, Int.reduceToNat, Nat.reduceLeDiff, Nat.sub_zero])
  refine join_now ?_
  (try simp (maxSteps := 1000000) (dsimp := false) (disch := (first | omega | (simp only [okR]; done) | (simp only [sizeR] <;> omega) | fail)) only [↓preR, postR, ↓w_stop, Nat.reduceEqDiff, Nat.reduceAdd, Nat.reduceSub, Nat.reduceMul, Int.reduceNeg, Nat.reduceLT, Int.reduceToNat, Nat.reduceLeDiff, Nat.sub_zero])
  refine fopen_new (fl := 14) (r3 := 2) h1 (an (by kernel_rfl)) (by decide) (an (by kernel_rfl)) (an (by kernel_rfl)) (by decide) (by decide) fun x σ2 h2 => ?_
  (try simp (maxSteps := 1000000) (dsimp := false) (disch := (first | omega | (simp only [okR]; done) | (simp only [sizeR] <;> omega) | fail)) only [↓preR, postR, ↓w_stop, Nat.reduceEqDiff, Nat.reduceAdd, Nat.reduceSub, Nat.reduceMul, Int.reduceNeg, Nat.reduceLT, Int.reduceToNat, Nat.reduceLeDiff, Nat.sub_zero])
  refine fopen_old (fl := 6) (r3 := 2) (r8 := 0) (r32 := 0) (nm := 1) (us := 1) (h2.front 1 rfl) (by decide) (an (by kernel_rfl)) (by decide) (an (by kernel_rfl)) (an (by kernel_rfl)) (.inl rfl) (an (by kernel_rfl)) (by decide) (by decide) fun y σ3 h3 => ?_
  (try simp (maxSteps := 1000000) (dsimp := false) (disch := (first | omega | (simp only [okR]; done) | (simp only [sizeR] <;> omega) | fail)) only [↓preR, postR, ↓w_stop, Nat.reduceEqDiff, Nat.reduceAdd, Nat.reduceSub, Nat.reduceMul, Int.reduceNeg, Nat.reduceLT, Int.reduceToNat, Nat.reduceLeDiff, Nat.sub_zero])
  refine join_now ?_
  (try simp (maxSteps := 1000000) (dsimp := false) (disch := (first | omega | (simp only [okR]; done) | (simp only [sizeR] <;> omega) | fail)) only [↓preR, postR, ↓w_stop, Nat.reduceEqDiff, Nat.reduceAdd, Nat.reduceSub, Nat.reduceMul, Int.reduceNeg, Nat.reduceLT, Int.reduceToNat, Nat.reduceLeDiff, Nat.sub_zero])
  refine join_now ?_
  have h4 : Hs σ3 X (FlC x f 2 0 14 false :: FlC y f 2 0 6 false :: Fs f 64 (tre (some (fV 1 2 [] rep64)) 1) [(pthA, .int .i64 2)] :: R) := h3.front 2 rfl
  refine loop_inv (fun nn xs s1 => ∃ (j : Nat) (all : List UInt8) (ax ay : Int) (hs : List Bool), xs = [.string (bs all), .int .i64 j] ∧ j ≤ l.length ∧ all = (l.take j).flatten ∧ all.length ≤ 100 * j ∧ hs.length = 64 ∧
    Hs s1 X (FlC x f 2 ax 14 false :: FlC y f 2 ay 6 false :: Fs f 64 (tre (some (fV 1 2 all hs)) 1) [(pthA, .int .i64 2)] :: R) ∧ nn = l.length - j) _ ⟨0, [], 0, 0, _, rfl, Nat.zero_le _, by simp, Nat.le_refl _, rep64_len, h4, rfl⟩ ?_
  rintro _ _ s1 again ⟨j, all, ax, ay, hs, rfl, hj, hall, hlen, hhl, h5, rfl⟩ hag
  by_cases hlt : j < l.length
  · obtain ⟨rfl, c0, _⟩ := at1 j hlt
    have g3 := h5.ldx c0
    by_cases hp : l[j].length ≤ 100
    rotate_left
    · (try simp (maxSteps := 1000000) (dsimp := false) (disch := (first | omega | (simp only [okR]; done) | (simp only [sizeR] <;> omega) | fail)) only [↓preR, postR, ↓w_join, Nat.reduceEqDiff, Nat.reduceAdd, Nat.reduceSub, Nat.reduceMul, Int.reduceNeg, Nat.reduceLT, Int.reduceToNat, Nat.reduceLeDiff, Nat.sub_zero, g3])
      refine awake_c h5 fun σ' => ?_
      (try simp (maxSteps := 1000000) (dsimp := false) (disch := (first | omega | (simp only [okR]; done) | (simp only [sizeR] <;> omega) | fail)) only [↓preR, postR, ↓w_join, Nat.reduceEqDiff, Nat.reduceAdd, Nat.reduceSub, Nat.reduceMul, Int.reduceNeg, Nat.reduceLT, Int.reduceToNat, Nat.reduceLeDiff, Nat.sub_zero])
    have next : ∀ (s2 : AS) (ax ay : Int) (hs' : List Bool), hs'.length = 64 → Hs s2 X (FlC x f 2 ax 14 false :: FlC y f 2 ay 6 false :: Fs f 64 (tre (some (fV 1 2 (all ++ l[j]) hs')) 1) [(pthA, .int .i64 2)] :: R) → again [.string (bs (all ++ l[j])), .int .i64 ((j + 1 : Nat) : Int)] s2 := by
      intro s2 ax ay hs' hl' h6
      refine hag _ _ _ ⟨j + 1, all ++ l[j], ax, ay, hs', rfl, hlt, ?_, ?_, hl', h6, rfl⟩ (by omega)
      · rw [take_flat l j hlt, hall]
      · simp; omega
    have wx : ∀ k' : Value → AS → Prop, (∀ s2 hs' ax', hs'.length = 64 → Hs s2 X (FlC x f 2 ax' 14 false :: FlC y f 2 ay 6 false :: Fs f 64 (tre (some (fV 1 2 (all ++ l[j]) hs')) 1) [(pthA, .int .i64 2)] :: R) → k' (.tuple #[.int .i64 l[j].length, .int .i64 0]) s2) →
        kCall Tryd.prog 10 [pp x, .string (bs l[j])] s1 k' := fun k' hk' =>
      wr_step (r := 2) (r4 := 4) (h5.front 1 rfl).swap.rot2.swap (an (by kernel_rfl)) (by decide) (an (by kernel_rfl)) (fun h => by cases h) hhl (by omega) fun s2 hs' hl' h6 => hk' s2 hs' _ hl' (h6.rot2.swap)
    have wy : ∀ k' : Value → AS → Prop, (∀ s2 hs' ay', hs'.length = 64 → Hs s2 X (FlC x f 2 ax 14 false :: FlC y f 2 ay' 6 false :: Fs f 64 (tre (some (fV 1 2 (all ++ l[j]) hs')) 1) [(pthA, .int .i64 2)] :: R) → k' (.tuple #[.int .i64 l[j].length, .int .i64 0]) s2) →
        kCall Tryd.prog 10 [pp y, .string (bs l[j])] s1 k' := fun k' hk' =>
      wr_step (r := 2) (r4 := 4) h5.swap.rot2.swap (an (by kernel_rfl)) (by decide) (an (by kernel_rfl)) (fun h => by cases h) hhl (by omega) fun s2 hs' hl' h6 => hk' s2 hs' _ hl' (h6.rot2)
    by_cases hw : j < who.length
    · obtain ⟨rfl, d0⟩ := at2 j hw
      have g4 := h5.ldx d0
      cases hb : who[j]
      · rw [hb] at g4
        (simp (maxSteps := 1000000) (dsimp := false) (disch := (first | omega | (simp only [okR]; done) | (simp only [sizeR] <;> omega) | fail)) only [↓preR, postR, ↓w_join, Nat.reduceEqDiff, Nat.reduceAdd, Nat.reduceSub, Nat.reduceMul, Int.reduceNeg, Nat.reduceLT, Int.reduceToNat, Nat.reduceLeDiff, Nat.sub_zero, g3, g4])
        refine wx _ fun s2 hs' ax' hl' h6 => ?_
        have g5 := h6.ldx c0
        (simp (maxSteps := 1000000) (dsimp := false) (disch := (first | omega | (simp only [okR]; done) | (simp only [sizeR] <;> omega) | fail)) only [↓preR, postR, ↓w_join, Nat.reduceEqDiff, Nat.reduceAdd, Nat.reduceSub, Nat.reduceMul, Int.reduceNeg, Nat.reduceLT, Int.reduceToNat, Nat.reduceLeDiff, Nat.sub_zero, g5])
        exact next _ _ _ _ hl' h6
      · rw [hb] at g4
        (simp (maxSteps := 1000000) (dsimp := false) (disch := (first | omega | (simp only [okR]; done) | (simp only [sizeR] <;> omega) | fail)) only [↓preR, postR, ↓w_join, Nat.reduceEqDiff, Nat.reduceAdd, Nat.reduceSub, Nat.reduceMul, Int.reduceNeg, Nat.reduceLT, Int.reduceToNat, Nat.reduceLeDiff, Nat.sub_zero, g3, g4])
        refine wy _ fun s2 hs' ay' hl' h6 => ?_
        have g5 := h6.ldx c0
        (simp (maxSteps := 1000000) (dsimp := false) (disch := (first | omega | (simp only [okR]; done) | (simp only [sizeR] <;> omega) | fail)) only [↓preR, postR, ↓w_join, Nat.reduceEqDiff, Nat.reduceAdd, Nat.reduceSub, Nat.reduceMul, Int.reduceNeg, Nat.reduceLT, Int.reduceToNat, Nat.reduceLeDiff, Nat.sub_zero, g5])
        exact next _ _ _ _ hl' h6
    · (simp (maxSteps := 1000000) (dsimp := false) (disch := (first | omega | (simp only [okR]; done) | (simp only [sizeR] <;> omega) | fail)) only [↓preR, postR, ↓w_join, Nat.reduceEqDiff, Nat.reduceAdd, Nat.reduceSub, Nat.reduceMul, Int.reduceNeg, Nat.reduceLT, Int.reduceToNat, Nat.reduceLeDiff, Nat.sub_zero, g3])
      refine wx _ fun s2 hs' ax' hl' h6 => ?_
      have g5 := h6.ldx c0
      (simp (maxSteps := 1000000) (dsimp := false) (disch := (first | omega | (simp only [okR]; done) | (simp only [sizeR] <;> omega) | fail)) only [↓preR, postR, ↓w_join, Nat.reduceEqDiff, Nat.reduceAdd, Nat.reduceSub, Nat.reduceMul, Int.reduceNeg, Nat.reduceLT, Int.reduceToNat, Nat.reduceLeDiff, Nat.sub_zero, g5])
      exact next _ _ _ _ hl' h6
  · have ej : j = l.length := by omega
    (simp (maxSteps := 1000000) (dsimp := false) (disch := (first | omega | (simp only [okR]; done) | (simp only [sizeR] <;> omega) | fail)) only [↓preR, postR, ↓w_join, Nat.reduceEqDiff, Nat.reduceAdd, Nat.reduceSub, Nat.reduceMul, Int.reduceNeg, Nat.reduceLT, Int.reduceToNat, Nat.reduceLeDiff, Nat.sub_zero])
    refine fnode_c h5 ?_
    (try simp (maxSteps := 1000000) (dsimp := false) (disch := (first | omega | (simp only [okR]; done) | (simp only [sizeR] <;> omega) | fail)) only [↓preR, postR, ↓w_join, Nat.reduceEqDiff, Nat.reduceAdd, Nat.reduceSub, Nat.reduceMul, Int.reduceNeg, Nat.reduceLT, Int.reduceToNat, Nat.reduceLeDiff, Nat.sub_zero])
    refine tread_c (n := 4096) (d := fV 1 2 all hs) (h5.front 2 rfl) rfl rfl (by decide) (by decide) fun σ5 h7 => ?_
    rw [show ((fV 1 2 all hs).data.drop (0 : Int).toNat).take (4096 : Int).toNat = all from rd0 all 4096 (by simp; omega)]
    (try simp (maxSteps := 1000000) (dsimp := false) (disch := (first | omega | (simp only [okR]; done) | (simp only [sizeR] <;> omega) | fail)) only [↓preR, postR, ↓w_join, Nat.reduceEqDiff, Nat.reduceAdd, Nat.reduceSub, Nat.reduceMul, Int.reduceNeg, Nat.reduceLT, Int.reduceToNat, Nat.reduceLeDiff, Nat.sub_zero])
    refine awake_c h7 fun σ7 => ?_
    (try simp (maxSteps := 1000000) (dsimp := false) (disch := (first | omega | (simp only [okR]; done) | (simp only [sizeR] <;> omega) | fail)) only [↓preR, postR, ↓w_join, Nat.reduceEqDiff, Nat.reduceAdd, Nat.reduceSub, Nat.reduceMul, Int.reduceNeg, Nat.reduceLT, Int.reduceToNat, Nat.reduceLeDiff, Nat.sub_zero])
theorem pass_walk {va vb : Value} {l : List Str} {rs : List Int} {en : Bool} (h : Hs σ X R) (hl : RepL X va l) (hb : RepL X vb rs) : kCall Tryd.prog 3 [va, vb, .bool en] σ fun v _ => v = .bool true := by
  obtain ⟨a1, b1, o1, c1, rfl, hc1, hm1, at1⟩ := strs_at hl
  obtain ⟨a2, b2, o2, c2, rfl, hc2, hm2, at2⟩ := ints_in hb
  refine f3 ?_
  unfold maxLen at hm1 hm2
  (try simp (maxSteps := 1000000) (dsimp := false) (disch := (first | omega | (simp only [okR]; done) | (simp only [sizeR] <;> omega) | fail)) only [↓preR, postR, ↓w_stop, Nat.reduceEqDiff, Nat.reduceAdd, Nat.reduceSub, Nat.reduceMul, Int.reduceNeg, Nat.reduceLT, Int.reduceToNat, Nat.reduceLeDiff, Nat.sub_zero, F3])
  refine fnew_c 1 (by decide) rfl (by decide) (by decide) h fun f σ1 h1 => ?_
  by_cases g1 : l.length ≤ 30
  rotate_left
  · (try simp (maxSteps := 1000000) (dsimp := false) (disch := (first | omega | (simp only [okR]; done) | (simp only [sizeR] <;> omega) | fail)) only [↓preR, postR, ↓w_join, Nat.reduceEqDiff, Nat.reduceAdd, Nat.reduceSub, Nat.reduceMul, Int.reduceNeg, Nat.reduceLT, Int.reduceToNat, Nat.reduceLeDiff, Nat.sub_zero])
    refine awake_c h1 fun σ' => ?_
    (try simp (maxSteps := 1000000) (dsimp := false) (disch := (first | omega | (simp only [okR]; done) | (simp only [sizeR] <;> omega) | fail)) only [↓preR, postR, ↓w_join, Nat.reduceEqDiff, Nat.reduceAdd, Nat.reduceSub, Nat.reduceMul, Int.reduceNeg, Nat.reduceLT, Int.reduceToNat, Nat.reduceLeDiff, Nat.sub_zero])
  by_cases g2 : rs.length ≤ 100
  rotate_left
  · (try simp (maxSteps := 1000000) (dsimp := false) (disch := (first | omega | (simp only [okR]; done) | (simp only [sizeR] <;> omega) | fail)) only [↓preR, postR, ↓w_join, Nat.reduceEqDiff, Nat.reduceAdd, Nat.reduceSub, Nat.reduceMul, Int.reduceNeg, Nat.reduceLT, Int.reduceToNat, Nat.reduceLeDiff, Nat.sub_zero])
    refine awake_c h1 fun σ' => ?_
    (try simp (maxSteps := 1000000) (dsimp := false) (disch := (first | omega | (simp only [okR]; done) | (simp only [sizeR] <;> omega) | fail)) only [↓preR, postR, ↓w_join, Nat.reduceEqDiff, Nat.reduceAdd, Nat.reduceSub, Nat.reduceMul, Int.reduceNeg, Nat.reduceLT, Int.reduceToNat, Nat.reduceLeDiff, Nat.sub_zero])
  (try simp (maxSteps := 1000000) (dsimp := false) (disch := (first | omega | (simp only [okR]; done) | (simp only [sizeR] <;> omega) | fail)) only [↓preR, postR, ↓w_stop, Nat.reduceEqDiff, Nat.reduceAdd, Nat.reduceSub, Nat.reduceMul, Int.reduceNeg, Nat.reduceLT, Int.reduceToNat, Nat.reduceLeDiff, Nat.sub_zero])
  refine join_now ?_
  (try simp (maxSteps := 1000000) (dsimp := false) (disch := (first | omega | (simp only [okR]; done) | (simp only [sizeR] <;> omega) | fail)) only [↓preR, postR, ↓w_stop, Nat.reduceEqDiff, Nat.reduceAdd, Nat.reduceSub, Nat.reduceMul, Int.reduceNeg, Nat.reduceLT, Int.reduceToNat, Nat.reduceLeDiff, Nat.sub_zero])
  refine join_by fun J hJ => ?_
  have tail : ∀ fl r4 : Int, An fl 3 2 → An fl 2 2 → An fl 8 8 → An fl 16 0 → An fl 4 r4 → 0 ≤ fl → fl < 64 → J [.int .i64 fl] σ1 := by
    intro fl r4 f3 f2 f8 f16 f4 f0 f64
    refine hJ _ _ ?_
    clear hJ
    (try simp (maxSteps := 1000000) (dsimp := false) (disch := (first | omega | (simp only [okR]; done) | (simp only [sizeR] <;> omega) | fail)) only [↓preR, postR, ↓w_stop, Nat.reduceEqDiff, Nat.reduceAdd, Nat.reduceSub, Nat.reduceMul, Int.reduceNeg, Nat.reduceLT, Int.reduceToNat, Nat.reduceLeDiff, Nat.sub_zero])
    refine fopen_new (fl := fl) (r3 := 2) h1 f3 (by decide) f8 f16 f0 f64 fun x σ2 h2 => ?_
    (try simp (maxSteps := 1000000) (dsimp := false) (disch := (first | omega | (simp only [okR]; done) | (simp only [sizeR] <;> omega) | fail)) only [↓preR, postR, ↓w_stop, Nat.reduceEqDiff, Nat.reduceAdd, Nat.reduceSub, Nat.reduceMul, Int.reduceNeg, Nat.reduceLT, Int.reduceToNat, Nat.reduceLeDiff, Nat.sub_zero])
    refine fopen_old (fl := 1) (r3 := 1) (r8 := 0) (r32 := 0) (nm := 1) (us := 1) (h2.front 1 rfl) (by decide) (an (by kernel_rfl)) (by decide) (an (by kernel_rfl)) (an (by kernel_rfl)) (.inl rfl) (an (by kernel_rfl)) (by decide) (by decide) fun y σ3 h3 => ?_
    (try simp (maxSteps := 1000000) (dsimp := false) (disch := (first | omega | (simp only [okR]; done) | (simp only [sizeR] <;> omega) | fail)) only [↓preR, postR, ↓w_stop, Nat.reduceEqDiff, Nat.reduceAdd, Nat.reduceSub, Nat.reduceMul, Int.reduceNeg, Nat.reduceLT, Int.reduceToNat, Nat.reduceLeDiff, Nat.sub_zero])
    refine join_now ?_
    (try simp (maxSteps := 1000000) (dsimp := false) (disch := (first | omega | (simp only [okR]; done) | (simp only [sizeR] <;> omega) | fail)) only [↓preR, postR, ↓w_stop, Nat.reduceEqDiff, Nat.reduceAdd, Nat.reduceSub, Nat.reduceMul, Int.reduceNeg, Nat.reduceLT, Int.reduceToNat, Nat.reduceLeDiff, Nat.sub_zero])
    refine join_now ?_
    have h4 : Hs σ3 X (FlC x f 2 0 fl false :: FlC y f 2 0 1 false :: Fs f 64 (tre (some (fV 1 2 [] rep64)) 1) [(pthA, .int .i64 2)] :: R) := h3.front 2 rfl
    refine loop_inv (fun nn xs s1 => ∃ (j : Nat) (all : List UInt8) (hs : List Bool), xs = [.string (bs all), .int .i64 j] ∧ j ≤ l.length ∧ all.length ≤ 100 * j ∧ hs.length = 64 ∧
      Hs s1 X (FlC x f 2 all.length fl false :: FlC y f 2 0 1 false :: Fs f 64 (tre (some (fV 1 2 all hs)) 1) [(pthA, .int .i64 2)] :: R) ∧ nn = l.length - j) _ ⟨0, [], _, rfl, Nat.zero_le _, Nat.le_refl _, rep64_len, h4, rfl⟩ ?_
    rintro _ _ s1 again ⟨j, all, hs, rfl, hj, hlen, hhl, h5, rfl⟩ hag
    by_cases hlt : j < l.length
    · obtain ⟨rfl, c0, _⟩ := at1 j hlt
      have g3 := h5.ldx c0
      by_cases hp : l[j].length ≤ 100
      rotate_left
      · (try simp (maxSteps := 1000000) (dsimp := false) (disch := (first | omega | (simp only [okR]; done) | (simp only [sizeR] <;> omega) | fail)) only [↓preR, postR, ↓w_join, Nat.reduceEqDiff, Nat.reduceAdd, Nat.reduceSub, Nat.reduceMul, Int.reduceNeg, Nat.reduceLT, Int.reduceToNat, Nat.reduceLeDiff, Nat.sub_zero, g3])
        refine awake_c h5 fun σ' => ?_
        (try simp (maxSteps := 1000000) (dsimp := false) (disch := (first | omega | (simp only [okR]; done) | (simp only [sizeR] <;> omega) | fail)) only [↓preR, postR, ↓w_join, Nat.reduceEqDiff, Nat.reduceAdd, Nat.reduceSub, Nat.reduceMul, Int.reduceNeg, Nat.reduceLT, Int.reduceToNat, Nat.reduceLeDiff, Nat.sub_zero])
      (simp (maxSteps := 1000000) (dsimp := false) (disch := (first | omega | (simp only [okR]; done) | (simp only [sizeR] <;> omega) | fail)) only [↓preR, postR, ↓w_join, Nat.reduceEqDiff, Nat.reduceAdd, Nat.reduceSub, Nat.reduceMul, Int.reduceNeg, Nat.reduceLT, Int.reduceToNat, Nat.reduceLeDiff, Nat.sub_zero, g3])
      refine wr_step (r := 2) (r4 := r4) (h5.front 1 rfl).swap.rot2.swap f2 (by decide) f4 (fun _ => rfl) hhl (by omega) fun s2 hs' hl' h6 => ?_
      have h7 := h6.rot2.swap
      have g5 := h7.ldx c0
      (simp (maxSteps := 1000000) (dsimp := false) (disch := (first | omega | (simp only [okR]; done) | (simp only [sizeR] <;> omega) | fail)) only [↓preR, postR, ↓w_join, Nat.reduceEqDiff, Nat.reduceAdd, Nat.reduceSub, Nat.reduceMul, Int.reduceNeg, Nat.reduceLT, Int.reduceToNat, Nat.reduceLeDiff, Nat.sub_zero, g5])
      have ee : ((all ++ l[j]).length : Int) = (all.length : Int) + l[j].length := by simp
      rw [← ee] at h7
      exact hag _ _ _ ⟨j + 1, all ++ l[j], hs', rfl, hlt, by simp; omega, hl', h7, rfl⟩ (by omega)
    · (try simp (maxSteps := 1000000) (dsimp := false) (disch := (first | omega | (simp only [okR]; done) | (simp only [sizeR] <;> omega) | fail)) only [↓preR, postR, ↓w_stop, Nat.reduceEqDiff, Nat.reduceAdd, Nat.reduceSub, Nat.reduceMul, Int.reduceNeg, Nat.reduceLT, Int.reduceToNat, Nat.reduceLeDiff, Nat.sub_zero])
      clear hag
      refine join_now ?_
      (try simp (maxSteps := 1000000) (dsimp := false) (disch := (first | omega | (simp only [okR]; done) | (simp only [sizeR] <;> omega) | fail)) only [↓preR, postR, ↓w_stop, Nat.reduceEqDiff, Nat.reduceAdd, Nat.reduceSub, Nat.reduceMul, Int.reduceNeg, Nat.reduceLT, Int.reduceToNat, Nat.reduceLeDiff, Nat.sub_zero])
      refine join_now ?_
      refine loop_inv (fun nn xs s2 => ∃ (j g : Nat), xs = [.string (bs (all.take g)), .int .i64 j] ∧ j ≤ rs.length ∧ g ≤ all.length ∧
        Hs s2 X (FlC x f 2 all.length fl false :: FlC y f 2 g 1 false :: Fs f 64 (tre (some (fV 1 2 all hs)) 1) [(pthA, .int .i64 2)] :: R) ∧ nn = rs.length - j) _ ⟨0, 0, rfl, Nat.zero_le _, Nat.zero_le _, h5, rfl⟩ ?_
      rintro _ _ s2 again ⟨i, g, rfl, hi, hg, h6, rfl⟩ hag
      by_cases hlt2 : i < rs.length
      · obtain ⟨rfl, c0, hin⟩ := at2 i hlt2
        have g3 := h6.ldx c0
        by_cases hneg : rs[i] < 0
        · (simp (maxSteps := 1000000) (dsimp := false) (disch := (first | omega | (simp only [okR]; done) | (simp only [sizeR] <;> omega) | fail)) only [↓preR, postR, ↓w_join, Nat.reduceEqDiff, Nat.reduceAdd, Nat.reduceSub, Nat.reduceMul, Int.reduceNeg, Nat.reduceLT, Int.reduceToNat, Nat.reduceLeDiff, Nat.sub_zero, g3])
          refine fread_neg (r := 1) (d := fV 1 2 all hs) h6.swap.rot2.swap (an (by kernel_rfl)) (by decide) rfl rfl (by omega) (by omega) hneg fun s3 h7 => ?_
          have h8 := h7.rot2
          have g4 := h8.ldx c0
          (simp (maxSteps := 1000000) (dsimp := false) (disch := (first | omega | (simp only [okR]; done) | (simp only [sizeR] <;> omega) | fail)) only [↓preR, postR, ↓w_join, Nat.reduceEqDiff, Nat.reduceAdd, Nat.reduceSub, Nat.reduceMul, Int.reduceNeg, Nat.reduceLT, Int.reduceToNat, Nat.reduceLeDiff, Nat.sub_zero, g4])
          exact hag _ _ _ ⟨i + 1, g, rfl, hlt2, hg, h8, rfl⟩ (by omega)
        · (simp (maxSteps := 1000000) (dsimp := false) (disch := (first | omega | (simp only [okR]; done) | (simp only [sizeR] <;> omega) | fail)) only [↓preR, postR, ↓w_join, Nat.reduceEqDiff, Nat.reduceAdd, Nat.reduceSub, Nat.reduceMul, Int.reduceNeg, Nat.reduceLT, Int.reduceToNat, Nat.reduceLeDiff, Nat.sub_zero, g3])
          obtain ⟨t, ht⟩ : ∃ t, (all.drop g).take (rs[i]).toNat = t := ⟨_, rfl⟩
          have htl : t.length = min (rs[i]).toNat (all.length - g) := by rw [← ht]; simp
          refine fread_e (r := 1) (d := fV 1 2 all hs) (t := t) h6.swap.rot2.swap (an (by kernel_rfl)) (by decide) rfl rfl (by omega) (by omega) (by show all.length ≤ _; omega) (by omega) (by rw [← ht]; rw [show ((g : Int)).toNat = g from by omega]) fun s3 h7 => ?_
          have h8 := h7.rot2
          have g4 := h8.ldx c0
          have eG : (all.take g).length = g := by simp; omega
          have hmn : (if (all.length : Int) - (g : Int) < rs[i] then (all.length : Int) - (g : Int) else rs[i]) = (t.length : Int) := by split <;> omega
          (simp (maxSteps := 1000000) (dsimp := false) (disch := (first | omega | (simp only [okR]; done) | (simp only [sizeR] <;> omega) | fail)) only [↓preR, postR, ↓w_join, Nat.reduceEqDiff, Nat.reduceAdd, Nat.reduceSub, Nat.reduceMul, Int.reduceNeg, Nat.reduceLT, Int.reduceToNat, Nat.reduceLeDiff, Nat.sub_zero, g4, eG, hmn])
          refine hag _ _ _ ⟨i + 1, g + t.length, ?_, hlt2, by omega, h8, rfl⟩ (by omega)
          have e2 : all.take g ++ t = all.take (g + t.length) := by
            rw [List.take_add, ← ht]
            congr 1
            rw [ht, htl, ← ht]
            apply List.ext_getElem?
            intro q
            rw [List.getElem?_take, List.getElem?_take]
            by_cases h1 : q < (rs[i]).toNat
            · by_cases h2 : q < all.length - g
              · rw [if_pos h1, if_pos (by omega)]
              · rw [if_pos h1, if_neg (by omega), List.getElem?_eq_none (by simp; omega)]
            · rw [if_neg h1, if_neg (by omega)]
          rw [e2]
          rfl
      · have eG : (all.take g).length = g := by simp; omega
        (simp (maxSteps := 1000000) (dsimp := false) (disch := (first | omega | (simp only [okR]; done) | (simp only [sizeR] <;> omega) | fail)) only [↓preR, postR, ↓w_join, Nat.reduceEqDiff, Nat.reduceAdd, Nat.reduceSub, Nat.reduceMul, Int.reduceNeg, Nat.reduceLT, Int.reduceToNat, Nat.reduceLeDiff, Nat.sub_zero, eG])
        refine fat_c h6 ?_
        (simp (maxSteps := 1000000) (dsimp := false) (disch := (first | omega | (simp only [okR]; done) | (simp only [sizeR] <;> omega) | fail)) only [↓preR, postR, ↓w_join, Nat.reduceEqDiff, Nat.reduceAdd, Nat.reduceSub, Nat.reduceMul, Int.reduceNeg, Nat.reduceLT, Int.reduceToNat, Nat.reduceLeDiff, Nat.sub_zero, eG])
        refine fat_c h6.swap ?_
        (simp (maxSteps := 1000000) (dsimp := false) (disch := (first | omega | (simp only [okR]; done) | (simp only [sizeR] <;> omega) | fail)) only [↓preR, postR, ↓w_join, Nat.reduceEqDiff, Nat.reduceAdd, Nat.reduceSub, Nat.reduceMul, Int.reduceNeg, Nat.reduceLT, Int.reduceToNat, Nat.reduceLeDiff, Nat.sub_zero, eG])
        refine awake_c h6 fun σ7 => ?_
        (try simp (maxSteps := 1000000) (dsimp := false) (disch := (first | omega | (simp only [okR]; done) | (simp only [sizeR] <;> omega) | fail)) only [↓preR, postR, ↓w_join, Nat.reduceEqDiff, Nat.reduceAdd, Nat.reduceSub, Nat.reduceMul, Int.reduceNeg, Nat.reduceLT, Int.reduceToNat, Nat.reduceLeDiff, Nat.sub_zero])
  cases en
  · (try simp (maxSteps := 1000000) (dsimp := false) (disch := (first | omega | (simp only [okR]; done) | (simp only [sizeR] <;> omega) | fail)) only [↓preR, postR, ↓w_stop, Nat.reduceEqDiff, Nat.reduceAdd, Nat.reduceSub, Nat.reduceMul, Int.reduceNeg, Nat.reduceLT, Int.reduceToNat, Nat.reduceLeDiff, Nat.sub_zero])
    exact tail 10 0 (an (by kernel_rfl)) (an (by kernel_rfl)) (an (by kernel_rfl)) (an (by kernel_rfl)) (an (by kernel_rfl)) (by decide) (by decide)
  · have eo : binV .or (.int .i64 10) (.int .i64 4) = some (.int .i64 14) := by kernel_rfl
    (try simp (maxSteps := 1000000) (dsimp := false) (disch := (first | omega | (simp only [okR]; done) | (simp only [sizeR] <;> omega) | fail)) only [↓preR, postR, ↓w_stop, Nat.reduceEqDiff, Nat.reduceAdd, Nat.reduceSub, Nat.reduceMul, Int.reduceNeg, Nat.reduceLT, Int.reduceToNat, Nat.reduceLeDiff, Nat.sub_zero, eo])
    exact tail 14 4 (an (by kernel_rfl)) (an (by kernel_rfl)) (an (by kernel_rfl)) (an (by kernel_rfl)) (an (by kernel_rfl)) (by decide) (by decide)
theorem pass_law {v0 v1 v2 : Value} {c : Ce} (h : Hs σ c []) (A0 : OV c (shOf Tryd.prog 8 22) v0) (A1 : OV c (shOf Tryd.prog 8 23) v1) (A2 : OV c (shOf Tryd.prog 8 4) v2) :
    kCall Tryd.prog 3 [v0, v1, v2] σ fun v _ => v = .bool true := by
  rw [show shOf Tryd.prog 8 22 = .slice .str 1 from by kernel_rfl] at A0
  rw [show shOf Tryd.prog 8 23 = .slice (.int .i64) 1 from by kernel_rfl] at A1
  rw [show shOf Tryd.prog 8 4 = .bool from by kernel_rfl] at A2
  obtain ⟨l, h0⟩ := arg_list (α := Str) A0
  obtain ⟨rs, h1⟩ := arg_list (α := Int) A1
  obtain ⟨en, rfl⟩ := arg_bool A2
  exact pass_walk h h0 h1
theorem ends_law {v0 v1 : Value} {c : Ce} (h : Hs σ c []) (A0 : OV c (shOf Tryd.prog 8 22) v0) (A1 : OV c (shOf Tryd.prog 8 38) v1) :
    kCall Tryd.prog 4 [v0, v1] σ fun v _ => v = .bool true := by
  rw [show shOf Tryd.prog 8 22 = .slice .str 1 from by kernel_rfl] at A0
  rw [show shOf Tryd.prog 8 38 = .slice .bool 1 from by kernel_rfl] at A1
  obtain ⟨l, h0⟩ := arg_list (α := Str) A0
  obtain ⟨who, h1⟩ := arg_list (α := Bool) A1
  exact ends_walk h h0 h1
end
end Go.Proofs.YtmlceloabmkjmaaDoor
