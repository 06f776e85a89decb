/- A text in single quotes: Go's library called. Conditions: as each theorem says. -/
import Derived.Test.YtmgdkoidgoihfaaGreatDoorWdL
import Derived.Test.YtmgdkoidgoihfaaGreatDoorLb
import Derived.Test.YtmgdkoidgoihfaaGreatDoorQ
import Derived.Lib.Replace
import Derived.Test.YtmgdkoidgoihfaaGreatDoorCvo
import Derived.Test.YtmgdkoidgoihfaaGreatDoorWeA
import Derived.Test.YtmgdkoidgoihfaaGreatDoorRows
namespace Go.Proofs.YtmgdkoidgoihfaaGreatDoor
open E Go.Lib
set_option linter.unusedVariables false
set_option linter.unusedSimpArgs false
set_option maxHeartbeats 1000000
set_option maxRecDepth 20000

abbrev quo4 : Str := [39, 92, 39, 39]
theorem index_cons_ne {x c : UInt8} {l : Str} (h : ¬ x = c) : Go.Lib.index (x :: l) [c] = if Go.Lib.index l [c] == -1 then -1 else Go.Lib.index l [c] + 1 := by
  show (if ([c] : Str).isPrefixOf (x :: l) then 0 else _) = _
  rw [if_neg]
  simp [List.isPrefixOf]
  exact fun e => h e.symm
theorem replK (c : UInt8) (new : Str) : ∀ (s : Str), replaceK [c] new (Go.Lib.count s [c]) s = s.flatMap fun x => if x = c then new else [x]
  | [] => by
    have : Go.Lib.count [] [c] = 0 := by rw [count_one]; rfl
    rw [this]; rfl
  | x :: l => by
    have ih := replK c new l
    rw [List.flatMap_cons]
    by_cases h : x = c
    · subst h
      have hi : Go.Lib.index (x :: l) [x] = ((0 : Nat) : Int) := by
        show (if ([x] : Str).isPrefixOf (x :: l) then (0 : Int) else _) = _
        rw [if_pos (by simp [List.isPrefixOf])]
        rfl
      rw [count_cons_eq, Nat.add_comm, replaceK_hit _ _ _ _ 0 hi, if_pos rfl, ← ih]
      rfl
    · rw [count_cons_ne x c l h, if_neg h, ← ih]
      cases hk : Go.Lib.count l [c] with
      | zero => rfl
      | succ k =>
        obtain ⟨i, hi⟩ := index_of_count (s := l) (old := [c]) (by omega)
        have hi2 : Go.Lib.index (x :: l) [c] = ((i + 1 : Nat) : Int) := by
          rw [index_cons_ne h, hi, if_neg (by simp)]
          omega
        rw [replaceK_hit _ _ _ _ _ hi2, replaceK_hit _ _ _ _ _ hi]
        rfl
theorem quoI_flat : ∀ (s : Str), quoI s = s.flatMap fun x => if x = 39 then quo4 else [x]
  | [] => rfl
  | x :: l => by
    rw [List.flatMap_cons, ← quoI_flat l]
    show (if x = 39 then 39 :: 92 :: 39 :: 39 :: quoI l else x :: quoI l) = _
    split <;> rfl
theorem replA (s : Str) : replaceAll s [39] quo4 = quoI s := by
  rw [quoI_flat, ← replK]
  show (if ([39] : Str) == quo4 then s else replaceK [39] quo4 (replaceNum s [39] (-1)) s) = _
  rw [if_neg (by decide)]
  have : replaceNum s [39] (-1) = Go.Lib.count s [39] := by unfold replaceNum; rw [if_pos (.inl (by omega))]
  rw [this]
theorem ext155 : Builder.Extra Tryz.prog Tryz.lays155_ren where
  sizeBuilder := by kernel_rfl
  liesBuilder := by kernel_rfl
  t5 := Tryz.underlying5
  a5 := Tryz.isAgg5
  z5 := Tryz.sizeOf5
  v5 := Tryz.zeroValue5
  infoByte := by kernel_rfl
  cellsByte := by kernel_rfl
  sizeByte := by kernel_rfl
  neB5 := by decide
theorem bs_list (s : Str) : (bs s).data.toList = s := by simp [bs]
theorem quote_c {X : Ce} {m : Int} (hM : X 0 0 = some (.int .i64 m)) : QuoteC X := by
  intro σ R k s hs h hk
  refine f94 ?_
  have hql := quoI_len s
  (try simp (maxSteps := 1000000) (dsimp := false) (disch := (first | omega | (simp only [okR]; done) | (simp only [sizeR] <;> omega) | fail)) only [↓preR, postR, ↓w_stop, Nat.reduceEqDiff, Nat.reduceAdd, Nat.reduceSub, Nat.reduceMul, Int.reduceNeg, Nat.reduceLT, Int.reduceToNat, Nat.reduceLeDiff, Nat.sub_zero, F94])
  refine below_by (v := .string (bs (quoI s))) (fun w hw => ?_) (fun j => ?_)
  · have e1 := bs_list s
    have e2 := bs_list [39]
    have e3 := bs_list quo4
    have := Any.strings_ReplaceAll Tryz.lays155 ext155 (bs s) (bs [39]) (bs quo4) m w (by rw [bs_size]; omega) (hw.ld (h.x _ _ _ hM)) (by rw [bs_size]; decide) (by
      unfold Lib.countB
      rw [e1, e2, bs_size, bs_size]
      have := count_le s [39]
      show s.length + Go.Lib.count s [39] * 4 ≤ _
      omega)
    rw [e1, e2, e3, replA] at this
    exact this
  · have h2 := h.up j
    (try simp (maxSteps := 1000000) (dsimp := false) (disch := (first | omega | (simp only [okR]; done) | (simp only [sizeR] <;> omega) | fail)) only [↓preR, postR, ↓w_stop, Nat.reduceEqDiff, Nat.reduceAdd, Nat.reduceSub, Nat.reduceMul, Int.reduceNeg, Nat.reduceLT, Int.reduceToNat, Nat.reduceLeDiff, Nat.sub_zero])
    exact hk _ h2
end Go.Proofs.YtmgdkoidgoihfaaGreatDoor

/- How a word is written, as the document's answer writes it: texts. Conditions: as each theorem says. -/
namespace Go.Proofs.YtmgdkoidgoihfaaGreatDoor
open E Go.Lib
set_option linter.unusedVariables false
set_option linter.unusedSimpArgs false
set_option maxHeartbeats 1000000
set_option maxRecDepth 20000

theorem escP_take (set s : Str) : ∀ (j : Nat) (hj : j < s.length), escP set (s.take (j + 1)) = escP set (s.take j) ++ (if set.contains s[j] = true then [92, s[j]] else [s[j]]) := by
  have app : ∀ (a b : Str), escP set (a ++ b) = escP set a ++ escP set b := by
    intro a b
    induction a with
    | nil => rfl
    | cons c a ih =>
      show (if set.contains c = true then 92 :: c :: escP set (a ++ b) else c :: escP set (a ++ b)) = (if set.contains c = true then 92 :: c :: escP set a else c :: escP set a) ++ escP set b
      split <;> rw [ih] <;> rfl
  intro j hj
  rw [List.take_succ_eq_append_getElem hj, app]
  rfl
theorem quoI_take (s : Str) : ∀ (j : Nat) (hj : j < s.length), quoI (s.take (j + 1)) = quoI (s.take j) ++ (if s[j] = 39 then [39, 92, 39, 39] else [s[j]]) := by
  have app : ∀ (a b : Str), quoI (a ++ b) = quoI a ++ quoI b := by
    intro a b
    induction a with
    | nil => rfl
    | cons c a ih =>
      show (if c = 39 then 39 :: 92 :: 39 :: 39 :: quoI (a ++ b) else c :: quoI (a ++ b)) = (if c = 39 then 39 :: 92 :: 39 :: 39 :: quoI a else c :: quoI a) ++ quoI b
      split <;> rw [ih] <;> rfl
  intro j hj
  rw [List.take_succ_eq_append_getElem hj, app]
  rfl
/-- Which bytes have a \ ahead. -/
def takeB (more most c : UInt8) : Bool := decide (c = 36) || (decide (c = 92) || (decide (c = 96) || ((decide (¬ more = 0) && decide (c = more)) || (decide (¬ most = 0) && decide (c = most)))))
section
variable {σ σ' : AS} {X : Ce} {R : List Ck} {k : Value → AS → Prop} {s set : Str} {way : Nat} {more most : UInt8}
theorem taken_c (hset : ∀ c, set.contains c = takeB more most c) (hs : s.length ≤ 100000) (h : Hs σ X R) (hk : ∀ σ', Hs σ' X R → k (.string (bs (escP set s))) σ') : kCall Tryz.prog 78 [.string (bs s), .int .u8 more.toNat, .int .u8 most.toNat] σ k := by
  refine f78 ?_
  (try simp (maxSteps := 1000000) (dsimp := false) (disch := (first | omega | (simp only [okR]; done) | (simp only [sizeR] <;> omega) | fail)) only [↓preR, postR, ↓w_stop, Nat.reduceEqDiff, Nat.reduceAdd, Nat.reduceSub, Nat.reduceMul, Int.reduceNeg, Nat.reduceLT, Int.reduceToNat, Nat.reduceLeDiff, Nat.sub_zero, F78])
  refine join_by fun J1 hJ1 => ?_
  refine loop_inv (fun nn xs s1 => ∃ (j : Nat) (u : Value), xs = [u, .int .i64 j] ∧ j ≤ s.length ∧ Hs s1 X (E.Own (α := UInt8) u (escP set (s.take j)) :: R) ∧ nn = s.length - j) _ ⟨0, _, rfl, Nat.zero_le _, h.own0, rfl⟩ ?_
  rintro _ _ s1 again ⟨j, u, rfl, hj, h1, rfl⟩ hag
  (try simp (maxSteps := 1000000) (dsimp := false) (disch := (first | omega | (simp only [okR]; done) | (simp only [sizeR] <;> omega) | fail)) only [↓preR, postR, ↓w_stop, Nat.reduceEqDiff, Nat.reduceAdd, Nat.reduceSub, Nat.reduceMul, Int.reduceNeg, Nat.reduceLT, Int.reduceToNat, Nat.reduceLeDiff, Nat.sub_zero])
  refine join_by fun J3 hJ3 => ?_
  by_cases hlt : j < s.length
  rotate_left
  · rw [List.take_of_length_le (by omega)] at h1
    (try simp (maxSteps := 1000000) (dsimp := false) (disch := (first | omega | (simp only [okR]; done) | (simp only [sizeR] <;> omega) | fail)) only [↓preR, postR, ↓w_stop, Nat.reduceEqDiff, Nat.reduceAdd, Nat.reduceSub, Nat.reduceMul, Int.reduceNeg, Nat.reduceLT, Int.reduceToNat, Nat.reduceLeDiff, Nat.sub_zero])
    refine hJ1 _ _ ?_
    (try simp (maxSteps := 1000000) (dsimp := false) (disch := (first | omega | (simp only [okR]; done) | (simp only [sizeR] <;> omega) | fail)) only [↓preR, postR, ↓w_stop, Nat.reduceEqDiff, Nat.reduceAdd, Nat.reduceSub, Nat.reduceMul, Int.reduceNeg, Nat.reduceLT, Int.reduceToNat, Nat.reduceLeDiff, Nat.sub_zero])
    refine cvO_by h1 ?_
    exact hk _ h1.drop
  clear hJ1
  have hg : (s[j]?.getD 0) = s[j] := by simp [hlt]
  have hel := esc_len set (s.take j)
  rw [List.length_take] at hel
  have het := escP_take set s j hlt
  rw [hset] at het
  (try simp (maxSteps := 1000000) (dsimp := false) (disch := (first | omega | (simp only [okR]; done) | (simp only [sizeR] <;> omega) | fail)) only [↓preR, postR, ↓w_stop, Nat.reduceEqDiff, Nat.reduceAdd, Nat.reduceSub, Nat.reduceMul, Int.reduceNeg, Nat.reduceLT, Int.reduceToNat, Nat.reduceLeDiff, Nat.sub_zero])
  refine hJ3 _ _ ?_
  clear hJ3
  (try simp (maxSteps := 1000000) (dsimp := false) (disch := (first | omega | (simp only [okR]; done) | (simp only [sizeR] <;> omega) | fail)) only [↓preR, postR, ↓w_stop, Nat.reduceEqDiff, Nat.reduceAdd, Nat.reduceSub, Nat.reduceMul, Int.reduceNeg, Nat.reduceLT, Int.reduceToNat, Nat.reduceLeDiff, Nat.sub_zero, hg])
  refine join_by fun J4 hJ4 => ?_
  (try simp (maxSteps := 1000000) (dsimp := false) (disch := (first | omega | (simp only [okR]; done) | (simp only [sizeR] <;> omega) | fail)) only [↓preR, postR, ↓w_stop, Nat.reduceEqDiff, Nat.reduceAdd, Nat.reduceSub, Nat.reduceMul, Int.reduceNeg, Nat.reduceLT, Int.reduceToNat, Nat.reduceLeDiff, Nat.sub_zero, hg])
  refine join_by fun J5 hJ5 => ?_
  generalize s[j] = c at het hJ5 ⊢
  have nx : ∀ (u2 : Value) (s2 : AS) (L : Str), L.length ≤ 300000 → Hs s2 X (E.Own (α := UInt8) u2 L :: R) → L ++ [c] = escP set (s.take (j + 1)) → J5 [u2] s2 := by
    intro u2 s2 L hL h2 he
    refine hJ5 _ _ ?_
    (try simp (maxSteps := 1000000) (dsimp := false) (disch := (first | omega | (simp only [okR]; done) | (simp only [sizeR] <;> omega) | fail)) only [↓preR, postR, ↓w_stop, Nat.reduceEqDiff, Nat.reduceAdd, Nat.reduceSub, Nat.reduceMul, Int.reduceNeg, Nat.reduceLT, Int.reduceToNat, Nat.reduceLeDiff, Nat.sub_zero])
    refine push_by h2 (e := 5) (bytes := 1) (by kernel_rfl) (by kernel_rfl) (a := c) rfl (by omega) (by unfold maxLen; omega) fun v' s4 h5 => ?_
    rw [he] at h5
    (try simp (maxSteps := 1000000) (dsimp := false) (disch := (first | omega | (simp only [okR]; done) | (simp only [sizeR] <;> omega) | fail)) only [↓preR, postR, ↓w_stop, Nat.reduceEqDiff, Nat.reduceAdd, Nat.reduceSub, Nat.reduceMul, Int.reduceNeg, Nat.reduceLT, Int.reduceToNat, Nat.reduceLeDiff, Nat.sub_zero])
    refine hJ4 _ _ ?_
    (try simp (maxSteps := 1000000) (dsimp := false) (disch := (first | omega | (simp only [okR]; done) | (simp only [sizeR] <;> omega) | fail)) only [↓preR, postR, ↓w_stop, Nat.reduceEqDiff, Nat.reduceAdd, Nat.reduceSub, Nat.reduceMul, Int.reduceNeg, Nat.reduceLT, Int.reduceToNat, Nat.reduceLeDiff, Nat.sub_zero])
    exact hag _ _ _ ⟨j + 1, _, rfl, hlt, h5, rfl⟩ (by omega)
  clear hJ5 hJ4
  have nq : ∀ (x y : UInt8), ((x.toNat : Int) = (y.toNat : Int)) = (x = y) := fun x y => propext ⟨fun e => UInt8.toNat_inj.1 (by omega), fun e => by rw [e]⟩
  have q36 : ((c.toNat : Int) = 36) = (c = 36) := nq c 36
  have q92 : ((c.toNat : Int) = 92) = (c = 92) := nq c 92
  have q96 : ((c.toNat : Int) = 96) = (c = 96) := nq c 96
  have qm0 : ((more.toNat : Int) = 0) = (more = 0) := nq more 0
  have qt0 : ((most.toNat : Int) = 0) = (most = 0) := nq most 0
  have qm : ((c.toNat : Int) = (more.toNat : Int)) = (c = more) := nq c more
  have qt : ((c.toNat : Int) = (most.toNat : Int)) = (c = most) := nq c most
  have yes_ : takeB more most c = true → kApp Tryz.prog 42 42 u (.slice (some ⟨s1.n, 0, none⟩) 1 1) (s1.new (.cells [.int .u8 92])) (fun v49 s => J5 [v49] s) := by
    intro hB
    rw [hB, if_pos rfl] at het
    refine push_by h1 (e := 5) (bytes := 1) (by kernel_rfl) (by kernel_rfl) (a := 92) rfl (by omega) (by unfold maxLen; omega) fun u2 s2 h2 => ?_
    exact nx u2 s2 _ (by rw [List.length_append, List.length_singleton]; omega) h2 (by rw [het, List.append_assoc]; rfl)
  have no_ : takeB more most c = false → J5 [u] s1 := by
    intro hB
    rw [hB, if_neg (by decide)] at het
    exact nx u s1 _ (by omega) h1 het.symm
  clear nx
  unfold takeB at yes_ no_
  by_cases c1 : c = 36
  · have y := yes_ (by simp [c1])
    have z := q36.symm ▸ c1
    (try simp (maxSteps := 1000000) (dsimp := false) (disch := (first | omega | (simp only [okR]; done) | (simp only [sizeR] <;> omega) | fail)) only [↓preR, postR, ↓w_stop, Nat.reduceEqDiff, Nat.reduceAdd, Nat.reduceSub, Nat.reduceMul, Int.reduceNeg, Nat.reduceLT, Int.reduceToNat, Nat.reduceLeDiff, Nat.sub_zero, z])
    exact y
  have z1 : ¬ (c.toNat : Int) = 36 := fun e => c1 (q36 ▸ e)
  by_cases c2 : c = 92
  · have y := yes_ (by simp [c2])
    have z := q92.symm ▸ c2
    (try simp (maxSteps := 1000000) (dsimp := false) (disch := (first | omega | (simp only [okR]; done) | (simp only [sizeR] <;> omega) | fail)) only [↓preR, postR, ↓w_stop, Nat.reduceEqDiff, Nat.reduceAdd, Nat.reduceSub, Nat.reduceMul, Int.reduceNeg, Nat.reduceLT, Int.reduceToNat, Nat.reduceLeDiff, Nat.sub_zero, z1, z])
    exact y
  have z2 : ¬ (c.toNat : Int) = 92 := fun e => c2 (q92 ▸ e)
  by_cases c3 : c = 96
  · have y := yes_ (by simp [c3])
    have z := q96.symm ▸ c3
    (try simp (maxSteps := 1000000) (dsimp := false) (disch := (first | omega | (simp only [okR]; done) | (simp only [sizeR] <;> omega) | fail)) only [↓preR, postR, ↓w_stop, Nat.reduceEqDiff, Nat.reduceAdd, Nat.reduceSub, Nat.reduceMul, Int.reduceNeg, Nat.reduceLT, Int.reduceToNat, Nat.reduceLeDiff, Nat.sub_zero, z1, z2, z])
    exact y
  have z3 : ¬ (c.toNat : Int) = 96 := fun e => c3 (q96 ▸ e)
  by_cases m0 : more = 0
  · have w0 : (more.toNat : Int) = 0 := qm0.symm ▸ m0
    by_cases t0 : most = 0
    · have w1 : (most.toNat : Int) = 0 := qt0.symm ▸ t0
      have n := no_ (by simp [c1, c2, c3, m0, t0])
      (try simp (maxSteps := 1000000) (dsimp := false) (disch := (first | omega | (simp only [okR]; done) | (simp only [sizeR] <;> omega) | fail)) only [↓preR, postR, ↓w_stop, Nat.reduceEqDiff, Nat.reduceAdd, Nat.reduceSub, Nat.reduceMul, Int.reduceNeg, Nat.reduceLT, Int.reduceToNat, Nat.reduceLeDiff, Nat.sub_zero, z1, z2, z3, w0, w1])
      exact n
    have w1 : ¬ (most.toNat : Int) = 0 := fun e => t0 (qt0 ▸ e)
    by_cases ct : c = most
    · have w2 : (c.toNat : Int) = (most.toNat : Int) := qt.symm ▸ ct
      have y := yes_ (by simp [t0, ct])
      (try simp (maxSteps := 1000000) (dsimp := false) (disch := (first | omega | (simp only [okR]; done) | (simp only [sizeR] <;> omega) | fail)) only [↓preR, postR, ↓w_stop, Nat.reduceEqDiff, Nat.reduceAdd, Nat.reduceSub, Nat.reduceMul, Int.reduceNeg, Nat.reduceLT, Int.reduceToNat, Nat.reduceLeDiff, Nat.sub_zero, z1, z2, z3, w0, w1, w2])
      exact y
    · have w2 : ¬ (c.toNat : Int) = (most.toNat : Int) := fun e => ct (qt ▸ e)
      have n := no_ (by simp [c1, c2, c3, m0, t0, ct])
      (try simp (maxSteps := 1000000) (dsimp := false) (disch := (first | omega | (simp only [okR]; done) | (simp only [sizeR] <;> omega) | fail)) only [↓preR, postR, ↓w_stop, Nat.reduceEqDiff, Nat.reduceAdd, Nat.reduceSub, Nat.reduceMul, Int.reduceNeg, Nat.reduceLT, Int.reduceToNat, Nat.reduceLeDiff, Nat.sub_zero, z1, z2, z3, w0, w1, w2])
      exact n
  have w0 : ¬ (more.toNat : Int) = 0 := fun e => m0 (qm0 ▸ e)
  by_cases cm : c = more
  · have w3 : (c.toNat : Int) = (more.toNat : Int) := qm.symm ▸ cm
    have y := yes_ (by simp [m0, cm])
    (try simp (maxSteps := 1000000) (dsimp := false) (disch := (first | omega | (simp only [okR]; done) | (simp only [sizeR] <;> omega) | fail)) only [↓preR, postR, ↓w_stop, Nat.reduceEqDiff, Nat.reduceAdd, Nat.reduceSub, Nat.reduceMul, Int.reduceNeg, Nat.reduceLT, Int.reduceToNat, Nat.reduceLeDiff, Nat.sub_zero, z1, z2, z3, w0, w3])
    exact y
  have w3 : ¬ (c.toNat : Int) = (more.toNat : Int) := fun e => cm (qm ▸ e)
  by_cases t0 : most = 0
  · have w1 : (most.toNat : Int) = 0 := qt0.symm ▸ t0
    have n := no_ (by simp [c1, c2, c3, cm, t0])
    (try simp (maxSteps := 1000000) (dsimp := false) (disch := (first | omega | (simp only [okR]; done) | (simp only [sizeR] <;> omega) | fail)) only [↓preR, postR, ↓w_stop, Nat.reduceEqDiff, Nat.reduceAdd, Nat.reduceSub, Nat.reduceMul, Int.reduceNeg, Nat.reduceLT, Int.reduceToNat, Nat.reduceLeDiff, Nat.sub_zero, z1, z2, z3, w0, w3, w1])
    exact n
  have w1 : ¬ (most.toNat : Int) = 0 := fun e => t0 (qt0 ▸ e)
  by_cases ct : c = most
  · have w2 : (c.toNat : Int) = (most.toNat : Int) := qt.symm ▸ ct
    have y := yes_ (by simp [t0, ct])
    (try simp (maxSteps := 1000000) (dsimp := false) (disch := (first | omega | (simp only [okR]; done) | (simp only [sizeR] <;> omega) | fail)) only [↓preR, postR, ↓w_stop, Nat.reduceEqDiff, Nat.reduceAdd, Nat.reduceSub, Nat.reduceMul, Int.reduceNeg, Nat.reduceLT, Int.reduceToNat, Nat.reduceLeDiff, Nat.sub_zero, z1, z2, z3, w0, w3, w1, w2])
    exact y
  · have w2 : ¬ (c.toNat : Int) = (most.toNat : Int) := fun e => ct (qt ▸ e)
    have n := no_ (by simp [c1, c2, c3, cm, t0, ct])
    (try simp (maxSteps := 1000000) (dsimp := false) (disch := (first | omega | (simp only [okR]; done) | (simp only [sizeR] <;> omega) | fail)) only [↓preR, postR, ↓w_stop, Nat.reduceEqDiff, Nat.reduceAdd, Nat.reduceSub, Nat.reduceMul, Int.reduceNeg, Nat.reduceLT, Int.reduceToNat, Nat.reduceLeDiff, Nat.sub_zero, z1, z2, z3, w0, w3, w1, w2])
    exact n
theorem rquote_c (hs : s.length ≤ 100000) (h : Hs σ X R) (hk : ∀ σ', Hs σ' X R → k (.string (bs (quoteP s))) σ') : kCall Tryz.prog 79 [.string (bs s)] σ k := by
  refine f79 ?_
  have h0 := (h.new (cs := [.int .u8 39])).lit (l := ([39] : Str)) (n := 1) (RpL.one rfl) rfl (by unfold maxLen; omega)
  (try simp (maxSteps := 1000000) (dsimp := false) (disch := (first | omega | (simp only [okR]; done) | (simp only [sizeR] <;> omega) | fail)) only [↓preR, postR, ↓w_stop, Nat.reduceEqDiff, Nat.reduceAdd, Nat.reduceSub, Nat.reduceMul, Int.reduceNeg, Nat.reduceLT, Int.reduceToNat, Nat.reduceLeDiff, Nat.sub_zero, F79])
  refine join_by fun J1 hJ1 => ?_
  refine loop_inv (fun nn xs s1 => ∃ (j : Nat) (u : Value), xs = [u, .int .i64 j] ∧ j ≤ s.length ∧ Hs s1 X (E.Own (α := UInt8) u (39 :: quoI (s.take j)) :: R) ∧ nn = s.length - j) _ ⟨0, _, rfl, Nat.zero_le _, h0, rfl⟩ ?_
  rintro _ _ s1 again ⟨j, u, rfl, hj, h1, rfl⟩ hag
  have hql := quoI_len (s.take j)
  rw [List.length_take] at hql
  have hql2 : (39 :: quoI (s.take j)).length ≤ 400001 := by simp only [List.length_cons]; omega
  (try simp (maxSteps := 1000000) (dsimp := false) (disch := (first | omega | (simp only [okR]; done) | (simp only [sizeR] <;> omega) | fail)) only [↓preR, postR, ↓w_stop, Nat.reduceEqDiff, Nat.reduceAdd, Nat.reduceSub, Nat.reduceMul, Int.reduceNeg, Nat.reduceLT, Int.reduceToNat, Nat.reduceLeDiff, Nat.sub_zero])
  refine join_by fun J3 hJ3 => ?_
  by_cases hlt : j < s.length
  rotate_left
  · rw [List.take_of_length_le (by omega)] at h1 hql2
    (try simp (maxSteps := 1000000) (dsimp := false) (disch := (first | omega | (simp only [okR]; done) | (simp only [sizeR] <;> omega) | fail)) only [↓preR, postR, ↓w_stop, Nat.reduceEqDiff, Nat.reduceAdd, Nat.reduceSub, Nat.reduceMul, Int.reduceNeg, Nat.reduceLT, Int.reduceToNat, Nat.reduceLeDiff, Nat.sub_zero])
    refine hJ1 _ _ ?_
    (try simp (maxSteps := 1000000) (dsimp := false) (disch := (first | omega | (simp only [okR]; done) | (simp only [sizeR] <;> omega) | fail)) only [↓preR, postR, ↓w_stop, Nat.reduceEqDiff, Nat.reduceAdd, Nat.reduceSub, Nat.reduceMul, Int.reduceNeg, Nat.reduceLT, Int.reduceToNat, Nat.reduceLeDiff, Nat.sub_zero])
    refine push_by h1 (e := 5) (bytes := 1) (by kernel_rfl) (by kernel_rfl) (a := 39) rfl (by omega) (by unfold maxLen; omega) fun u2 s2 h2 => ?_
    (try simp (maxSteps := 1000000) (dsimp := false) (disch := (first | omega | (simp only [okR]; done) | (simp only [sizeR] <;> omega) | fail)) only [↓preR, postR, ↓w_stop, Nat.reduceEqDiff, Nat.reduceAdd, Nat.reduceSub, Nat.reduceMul, Int.reduceNeg, Nat.reduceLT, Int.reduceToNat, Nat.reduceLeDiff, Nat.sub_zero])
    refine cvO_by h2 ?_
    exact hk _ h2.drop
  clear hJ1
  have hg : (s[j]?.getD 0) = s[j] := by simp [hlt]
  have het := quoI_take s j hlt
  (try simp (maxSteps := 1000000) (dsimp := false) (disch := (first | omega | (simp only [okR]; done) | (simp only [sizeR] <;> omega) | fail)) only [↓preR, postR, ↓w_stop, Nat.reduceEqDiff, Nat.reduceAdd, Nat.reduceSub, Nat.reduceMul, Int.reduceNeg, Nat.reduceLT, Int.reduceToNat, Nat.reduceLeDiff, Nat.sub_zero])
  refine hJ3 _ _ ?_
  clear hJ3
  (try simp (maxSteps := 1000000) (dsimp := false) (disch := (first | omega | (simp only [okR]; done) | (simp only [sizeR] <;> omega) | fail)) only [↓preR, postR, ↓w_stop, Nat.reduceEqDiff, Nat.reduceAdd, Nat.reduceSub, Nat.reduceMul, Int.reduceNeg, Nat.reduceLT, Int.reduceToNat, Nat.reduceLeDiff, Nat.sub_zero, hg])
  refine join_by fun J4 hJ4 => ?_
  (try simp (maxSteps := 1000000) (dsimp := false) (disch := (first | omega | (simp only [okR]; done) | (simp only [sizeR] <;> omega) | fail)) only [↓preR, postR, ↓w_stop, Nat.reduceEqDiff, Nat.reduceAdd, Nat.reduceSub, Nat.reduceMul, Int.reduceNeg, Nat.reduceLT, Int.reduceToNat, Nat.reduceLeDiff, Nat.sub_zero, hg])
  refine join_by fun J5 hJ5 => ?_
  generalize s[j] = c at het hJ5 hg ⊢
  have nx : ∀ (u2 : Value) (s2 : AS) (L : Str), L.length ≤ 500000 → Hs s2 X (E.Own (α := UInt8) u2 L :: R) → L ++ [c] = 39 :: quoI (s.take (j + 1)) → J5 [u2] s2 := by
    intro u2 s2 L hL h2 he
    refine hJ5 _ _ ?_
    (try simp (maxSteps := 1000000) (dsimp := false) (disch := (first | omega | (simp only [okR]; done) | (simp only [sizeR] <;> omega) | fail)) only [↓preR, postR, ↓w_stop, Nat.reduceEqDiff, Nat.reduceAdd, Nat.reduceSub, Nat.reduceMul, Int.reduceNeg, Nat.reduceLT, Int.reduceToNat, Nat.reduceLeDiff, Nat.sub_zero, hg])
    refine push_by h2 (e := 5) (bytes := 1) (by kernel_rfl) (by kernel_rfl) (a := c) rfl (by omega) (by unfold maxLen; omega) fun v' s4 h5 => ?_
    rw [he] at h5
    (try simp (maxSteps := 1000000) (dsimp := false) (disch := (first | omega | (simp only [okR]; done) | (simp only [sizeR] <;> omega) | fail)) only [↓preR, postR, ↓w_stop, Nat.reduceEqDiff, Nat.reduceAdd, Nat.reduceSub, Nat.reduceMul, Int.reduceNeg, Nat.reduceLT, Int.reduceToNat, Nat.reduceLeDiff, Nat.sub_zero])
    refine hJ4 _ _ ?_
    (try simp (maxSteps := 1000000) (dsimp := false) (disch := (first | omega | (simp only [okR]; done) | (simp only [sizeR] <;> omega) | fail)) only [↓preR, postR, ↓w_stop, Nat.reduceEqDiff, Nat.reduceAdd, Nat.reduceSub, Nat.reduceMul, Int.reduceNeg, Nat.reduceLT, Int.reduceToNat, Nat.reduceLeDiff, Nat.sub_zero])
    exact hag _ _ _ ⟨j + 1, _, rfl, hlt, h5, rfl⟩ (by omega)
  clear hJ5 hJ4
  by_cases c39 : c = 39
  · have z : (c.toNat : Int) = 39 := by rw [c39]; rfl
    rw [if_pos c39] at het
    (try simp (maxSteps := 1000000) (dsimp := false) (disch := (first | omega | (simp only [okR]; done) | (simp only [sizeR] <;> omega) | fail)) only [↓preR, postR, ↓w_stop, Nat.reduceEqDiff, Nat.reduceAdd, Nat.reduceSub, Nat.reduceMul, Int.reduceNeg, Nat.reduceLT, Int.reduceToNat, Nat.reduceLeDiff, Nat.sub_zero, hg, z])
    refine apps_by (m := 3) (ms := ([39, 92, 39] : Str)) h1 (e := 5) (bytes := 1) (by kernel_rfl) (by kernel_rfl) (news := [.int .u8 39, .int .u8 92, .int .u8 39]) ⟨[.int .u8 39], [.int .u8 92, .int .u8 39], rfl, rfl, [.int .u8 92], [.int .u8 39], rfl, rfl, [.int .u8 39], [], rfl, rfl, rfl⟩ rfl (by omega) (by unfold maxLen; omega) fun u2 s2 h2 => ?_
    exact nx u2 s2 _ (by rw [List.length_append]; simp only [List.length_cons, List.length_nil] at hql2 ⊢; omega) h2 (by rw [het, c39, List.append_assoc]; rfl)
  · have z : ¬ (c.toNat : Int) = 39 := fun e => c39 (UInt8.toNat_inj.1 (by show _ = 39; omega))
    rw [if_neg c39] at het
    have n := nx u s1 _ (by omega) h1 (by rw [het]; rfl)
    (try simp (maxSteps := 1000000) (dsimp := false) (disch := (first | omega | (simp only [okR]; done) | (simp only [sizeR] <;> omega) | fail)) only [↓preR, postR, ↓w_stop, Nat.reduceEqDiff, Nat.reduceAdd, Nat.reduceSub, Nat.reduceMul, Int.reduceNeg, Nat.reduceLT, Int.reduceToNat, Nat.reduceLeDiff, Nat.sub_zero, hg, z])
    exact n
theorem set3 : ∀ c : UInt8, ([36, 34, 92, 96, 125] : Str).contains c = takeB 34 125 c := by
  have := (by decide +kernel : (List.range 256).all (fun i => ([36, 34, 92, 96, 125] : Str).contains (UInt8.ofNat i) == takeB 34 125 (UInt8.ofNat i)) = true)
  intro c
  have h := List.all_eq_true.1 this c.toNat (List.mem_range.2 c.toNat_lt)
  rw [UInt8.ofNat_toNat] at h
  exact eq_of_beq h
theorem set4 : ∀ c : UInt8, ([36, 34, 92, 96] : Str).contains c = takeB 34 0 c := by
  have := (by decide +kernel : (List.range 256).all (fun i => ([36, 34, 92, 96] : Str).contains (UInt8.ofNat i) == takeB 34 0 (UInt8.ofNat i)) = true)
  intro c
  have h := List.all_eq_true.1 this c.toNat (List.mem_range.2 c.toNat_lt)
  rw [UInt8.ofNat_toNat] at h
  exact eq_of_beq h
theorem set5 : ∀ c : UInt8, ([36, 92, 96] : Str).contains c = takeB 0 0 c := by
  have := (by decide +kernel : (List.range 256).all (fun i => ([36, 92, 96] : Str).contains (UInt8.ofNat i) == takeB 0 0 (UInt8.ofNat i)) = true)
  intro c
  have h := List.all_eq_true.1 this c.toNat (List.mem_range.2 c.toNat_lt)
  rw [UInt8.ofNat_toNat] at h
  exact eq_of_beq h
theorem rlit_c (hw : way ≤ 5) (hs : s.length ≤ 100000) (h : Hs σ X R) (hk : ∀ σ', Hs σ' X R → k (.string (bs (litW s way))) σ') : kCall Tryz.prog 59 [.string (bs s), .int .i64 way] σ k := by
  refine f59 ?_
  unfold litW at hk
  have e4 := esc_len [36, 34, 92, 96] s
  (try simp (maxSteps := 1000000) (dsimp := false) (disch := (first | omega | (simp only [okR]; done) | (simp only [sizeR] <;> omega) | fail)) only [↓preR, postR, ↓w_stop, Nat.reduceEqDiff, Nat.reduceAdd, Nat.reduceSub, Nat.reduceMul, Int.reduceNeg, Nat.reduceLT, Int.reduceToNat, Nat.reduceLeDiff, Nat.sub_zero, F59])
  refine join_by fun J1 hJ1 => ?_
  by_cases w4 : way = 4
  · have z4 : (way : Int) = 4 := by omega
    rw [if_neg (by omega), if_pos w4] at hk
    (try simp (maxSteps := 1000000) (dsimp := false) (disch := (first | omega | (simp only [okR]; done) | (simp only [sizeR] <;> omega) | fail)) only [↓preR, postR, ↓w_stop, Nat.reduceEqDiff, Nat.reduceAdd, Nat.reduceSub, Nat.reduceMul, Int.reduceNeg, Nat.reduceLT, Int.reduceToNat, Nat.reduceLeDiff, Nat.sub_zero, z4])
    refine taken_c (more := 34) (most := 0) (set := [36, 34, 92, 96]) set4 hs h fun s1 h1 => ?_
    (try simp (maxSteps := 1000000) (dsimp := false) (disch := (first | omega | (simp only [okR]; done) | (simp only [sizeR] <;> omega) | fail)) only [↓preR, postR, ↓w_stop, Nat.reduceEqDiff, Nat.reduceAdd, Nat.reduceSub, Nat.reduceMul, Int.reduceNeg, Nat.reduceLT, Int.reduceToNat, Nat.reduceLeDiff, Nat.sub_zero, List.cons_append, List.nil_append])
    exact hk _ h1
  have z4 : ¬ (way : Int) = 4 := by omega
  by_cases w3 : way = 3
  · have z3 : (way : Int) = 3 := by omega
    rw [if_pos w3] at hk
    (try simp (maxSteps := 1000000) (dsimp := false) (disch := (first | omega | (simp only [okR]; done) | (simp only [sizeR] <;> omega) | fail)) only [↓preR, postR, ↓w_stop, Nat.reduceEqDiff, Nat.reduceAdd, Nat.reduceSub, Nat.reduceMul, Int.reduceNeg, Nat.reduceLT, Int.reduceToNat, Nat.reduceLeDiff, Nat.sub_zero, z4, z3])
    refine join_by fun J2 hJ2 => ?_
    by_cases hs0 : s = []
    · rw [if_pos hs0] at hk
      (try simp (maxSteps := 1000000) (dsimp := false) (disch := (first | omega | (simp only [okR]; done) | (simp only [sizeR] <;> omega) | fail)) only [↓preR, postR, ↓w_stop, Nat.reduceEqDiff, Nat.reduceAdd, Nat.reduceSub, Nat.reduceMul, Int.reduceNeg, Nat.reduceLT, Int.reduceToNat, Nat.reduceLeDiff, Nat.sub_zero, hs0])
      exact hk _ h
    · rw [if_neg hs0] at hk
      (try simp (maxSteps := 1000000) (dsimp := false) (disch := (first | omega | (simp only [okR]; done) | (simp only [sizeR] <;> omega) | fail)) only [↓preR, postR, ↓w_stop, Nat.reduceEqDiff, Nat.reduceAdd, Nat.reduceSub, Nat.reduceMul, Int.reduceNeg, Nat.reduceLT, Int.reduceToNat, Nat.reduceLeDiff, Nat.sub_zero, hs0])
      refine hJ2 _ _ ?_
      (try simp (maxSteps := 1000000) (dsimp := false) (disch := (first | omega | (simp only [okR]; done) | (simp only [sizeR] <;> omega) | fail)) only [↓preR, postR, ↓w_stop, Nat.reduceEqDiff, Nat.reduceAdd, Nat.reduceSub, Nat.reduceMul, Int.reduceNeg, Nat.reduceLT, Int.reduceToNat, Nat.reduceLeDiff, Nat.sub_zero])
      refine taken_c (more := 34) (most := 125) (set := [36, 34, 92, 96, 125]) set3 hs h fun s1 h1 => ?_
      (try simp (maxSteps := 1000000) (dsimp := false) (disch := (first | omega | (simp only [okR]; done) | (simp only [sizeR] <;> omega) | fail)) only [↓preR, postR, ↓w_stop, Nat.reduceEqDiff, Nat.reduceAdd, Nat.reduceSub, Nat.reduceMul, Int.reduceNeg, Nat.reduceLT, Int.reduceToNat, Nat.reduceLeDiff, Nat.sub_zero])
      exact hk _ h1
  have z3 : ¬ (way : Int) = 3 := by omega
  rw [if_neg w3, if_neg w4] at hk
  by_cases w5 : way = 5
  · have z5 : (way : Int) = 5 := by omega
    rw [if_pos w5] at hk
    (try simp (maxSteps := 1000000) (dsimp := false) (disch := (first | omega | (simp only [okR]; done) | (simp only [sizeR] <;> omega) | fail)) only [↓preR, postR, ↓w_stop, Nat.reduceEqDiff, Nat.reduceAdd, Nat.reduceSub, Nat.reduceMul, Int.reduceNeg, Nat.reduceLT, Int.reduceToNat, Nat.reduceLeDiff, Nat.sub_zero, z4, z3, z5])
    refine taken_c (more := 0) (most := 0) (set := [36, 92, 96]) set5 hs h fun s1 h1 => ?_
    (try simp (maxSteps := 1000000) (dsimp := false) (disch := (first | omega | (simp only [okR]; done) | (simp only [sizeR] <;> omega) | fail)) only [↓preR, postR, ↓w_stop, Nat.reduceEqDiff, Nat.reduceAdd, Nat.reduceSub, Nat.reduceMul, Int.reduceNeg, Nat.reduceLT, Int.reduceToNat, Nat.reduceLeDiff, Nat.sub_zero])
    exact hk _ h1
  · have z5 : ¬ (way : Int) = 5 := by omega
    rw [if_neg w5] at hk
    (try simp (maxSteps := 1000000) (dsimp := false) (disch := (first | omega | (simp only [okR]; done) | (simp only [sizeR] <;> omega) | fail)) only [↓preR, postR, ↓w_stop, Nat.reduceEqDiff, Nat.reduceAdd, Nat.reduceSub, Nat.reduceMul, Int.reduceNeg, Nat.reduceLT, Int.reduceToNat, Nat.reduceLeDiff, Nat.sub_zero, z4, z3, z5])
    refine hJ1 _ _ ?_
    (try simp (maxSteps := 1000000) (dsimp := false) (disch := (first | omega | (simp only [okR]; done) | (simp only [sizeR] <;> omega) | fail)) only [↓preR, postR, ↓w_stop, Nat.reduceEqDiff, Nat.reduceAdd, Nat.reduceSub, Nat.reduceMul, Int.reduceNeg, Nat.reduceLT, Int.reduceToNat, Nat.reduceLeDiff, Nat.sub_zero])
    refine rquote_c hs h fun s1 h1 => ?_
    (try simp (maxSteps := 1000000) (dsimp := false) (disch := (first | omega | (simp only [okR]; done) | (simp only [sizeR] <;> omega) | fail)) only [↓preR, postR, ↓w_stop, Nat.reduceEqDiff, Nat.reduceAdd, Nat.reduceSub, Nat.reduceMul, Int.reduceNeg, Nat.reduceLT, Int.reduceToNat, Nat.reduceLeDiff, Nat.sub_zero])
    exact hk _ h1
theorem rsign_c {op : Int} (ho : 0 ≤ op ∧ op ≤ 9) (h : Hs σ X R) (hk : ∀ σ', Hs σ' X R → k (.string (bs (signP op))) σ') : kCall Tryz.prog 60 [.int .i64 op] σ k := by
  refine f60 ?_
  have h1 := h.new (cs := [.string (bs []), .string (bs []), .string (bs [45]), .string (bs [61]), .string (bs [63]), .string (bs [43]), .string (bs [35]), .string (bs [35, 35]), .string (bs [37]), .string (bs [37, 37])])
  have hop : op = 0 ∨ op = 1 ∨ op = 2 ∨ op = 3 ∨ op = 4 ∨ op = 5 ∨ op = 6 ∨ op = 7 ∨ op = 8 ∨ op = 9 := by omega
  have hk2 := hk _ h1.drop
  rcases hop with rfl | rfl | rfl | rfl | rfl | rfl | rfl | rfl | rfl | rfl <;>
  · (try simp (maxSteps := 1000000) (dsimp := false) (disch := (first | omega | (simp only [okR]; done) | (simp only [sizeR] <;> omega) | fail)) only [↓preR, postR, ↓w_stop, Nat.reduceEqDiff, Nat.reduceAdd, Nat.reduceSub, Nat.reduceMul, Int.reduceNeg, Nat.reduceLT, Int.reduceToNat, Nat.reduceLeDiff, Nat.sub_zero, F60, h1.obj])
    exact hk2
end
end Go.Proofs.YtmgdkoidgoihfaaGreatDoor

/- How a word is written, as the document's answer writes it: parts and words; what is literal. Conditions: as each theorem says. -/
namespace Go.Proofs.YtmgdkoidgoihfaaGreatDoor
open E Go.Lib
open Go.RowKit
set_option linter.unusedVariables false
set_option linter.unusedSimpArgs false
set_option maxHeartbeats 1000000
set_option maxRecDepth 20000

def wayOk (way : Nat) : Prop := way = 0 ∨ way = 1 ∨ way = 3 ∨ way = 4 ∨ way = 5
def WrR (n : Nat) : Prop := ∀ {σ : AS} {X : Ce} {R : List Ck} {k : Value → AS → Prop} {w : List Pt} {v : Value} {way : Nat}, szW w < n → szW w ≤ 8000 → wayOk way → RepL X v w → Hs σ X R → (∀ σ', Hs σ' X R → k (.string (bs (writtenW w way))) σ') → kCall Tryz.prog 21 [v, .int .i64 way] σ k
section
variable {σ σ' : AS} {X : Ce} {R : List Ck} {k : Value → AS → Prop} {p n i f : Nat} {s t set : Str} {c : UInt8} {way : Nat} {q : Bool}
theorem rpart_c (ih : WrR n) {x : Pt} {v : Value} (hx : RpPt X x (ptC x v)) (hsz : szW x.word < n) (hsz2 : szPt x ≤ 8000) (hw : wayOk way) (h : Hs σ X R) (hk : ∀ σ', Hs σ' X R → k (.string (bs (partW x way))) σ') :
    kCall Tryz.prog 35 [ptV x v, .int .i64 way] σ k := by
  obtain ⟨va, vn, vc, rfl⟩ := hx.val
  obtain ⟨hxt, _, _, hxw⟩ := hx.rest
  refine f35 ?_
  obtain ⟨kd, tx, qt, op, cl, wd⟩ := x
  simp only [Pt.text, Pt.word] at hxt hsz hxw
  have hpl := part_len (.mk kd tx qt op cl wd) way
  have htl : tx.length ≤ 8000 := by unfold szPt at hsz2; omega
  have hwl : szW wd ≤ 8000 := by unfold szPt at hsz2; omega
  have hwrl : ∀ y, (writtenW wd y).length ≤ 96000 := fun y => by have := written_len wd y; omega
  unfold partW at hk
  have h1 := h.new (cs := ptC (.mk kd tx qt op cl wd) (.slice va vn vc))
  have hcs : ptC (.mk kd tx qt op cl wd) (.slice va vn vc) = [.int .i64 kd, .string (bs tx), .bool qt, .int .i64 op, .bool cl, .slice va vn vc] := rfl
  rw [hcs] at h1
  have hcv : cellsV (ptV (.mk kd tx qt op cl wd) (.slice va vn vc)) = [.int .i64 kd, .string (bs tx), .bool qt, .int .i64 op, .bool cl, .slice va vn vc] := rfl
  have hw5 : way ≤ 5 := by unfold wayOk at hw; omega
  (try simp (maxSteps := 1000000) (dsimp := false) (disch := (first | omega | (simp only [okR]; done) | (simp only [sizeR] <;> omega) | fail)) only [↓preR, postR, ↓w_stop, Nat.reduceEqDiff, Nat.reduceAdd, Nat.reduceSub, Nat.reduceMul, Int.reduceNeg, Nat.reduceLT, Int.reduceToNat, Nat.reduceLeDiff, Nat.sub_zero, F35, hcv])
  generalize AS.new σ _ = s1 at h1 ⊢
  generalize σ.n = b at h1 ⊢
  refine join_by fun J1 hJ1 => ?_
  have tail1 : ∀ (o : Str) s4, o.length ≤ 200000 → (∀ σ', Hs σ' X R → k (.string (bs (inQ (qt && quoteB way) o))) σ') → Hs s4 X (Cel b [.int .i64 kd, .string (bs tx), .bool qt, .int .i64 op, .bool cl, .slice va vn vc] :: R) → J1 [.string (bs o)] s4 := by
    intro o s4 hol hk h5
    refine hJ1 _ _ ?_
    clear hJ1
    (try simp (maxSteps := 1000000) (dsimp := false) (disch := (first | omega | (simp only [okR]; done) | (simp only [sizeR] <;> omega) | fail)) only [↓preR, postR, ↓w_stop, Nat.reduceEqDiff, Nat.reduceAdd, Nat.reduceSub, Nat.reduceMul, Int.reduceNeg, Nat.reduceLT, Int.reduceToNat, Nat.reduceLeDiff, Nat.sub_zero])
    refine join_now ?_
    cases qt with
    | false =>
      (try simp (maxSteps := 1000000) (dsimp := false) (disch := (first | omega | (simp only [okR]; done) | (simp only [sizeR] <;> omega) | fail)) only [↓preR, postR, ↓w_stop, Nat.reduceEqDiff, Nat.reduceAdd, Nat.reduceSub, Nat.reduceMul, Int.reduceNeg, Nat.reduceLT, Int.reduceToNat, Nat.reduceLeDiff, Nat.sub_zero, h5.obj])
      exact hk _ h5.drop
    | true =>
      rcases hw with rfl | rfl | rfl | rfl | rfl
      · have kk := hk _ h5.drop
        (try simp (maxSteps := 1000000) (dsimp := false) (disch := (first | omega | (simp only [okR]; done) | (simp only [sizeR] <;> omega) | fail)) only [↓preR, postR, ↓w_stop, Nat.reduceEqDiff, Nat.reduceAdd, Nat.reduceSub, Nat.reduceMul, Int.reduceNeg, Nat.reduceLT, Int.reduceToNat, Nat.reduceLeDiff, Nat.sub_zero, h5.obj])
        exact kk
      · have kk := hk _ h5.drop
        (try simp (maxSteps := 1000000) (dsimp := false) (disch := (first | omega | (simp only [okR]; done) | (simp only [sizeR] <;> omega) | fail)) only [↓preR, postR, ↓w_stop, Nat.reduceEqDiff, Nat.reduceAdd, Nat.reduceSub, Nat.reduceMul, Int.reduceNeg, Nat.reduceLT, Int.reduceToNat, Nat.reduceLeDiff, Nat.sub_zero, h5.obj])
        exact kk
      · have kk := hk _ h5.drop
        (try simp (maxSteps := 1000000) (dsimp := false) (disch := (first | omega | (simp only [okR]; done) | (simp only [sizeR] <;> omega) | fail)) only [↓preR, postR, ↓w_stop, Nat.reduceEqDiff, Nat.reduceAdd, Nat.reduceSub, Nat.reduceMul, Int.reduceNeg, Nat.reduceLT, Int.reduceToNat, Nat.reduceLeDiff, Nat.sub_zero, h5.obj])
        exact kk
      · have kk := hk _ h5.drop
        (try simp (maxSteps := 1000000) (dsimp := false) (disch := (first | omega | (simp only [okR]; done) | (simp only [sizeR] <;> omega) | fail)) only [↓preR, postR, ↓w_stop, Nat.reduceEqDiff, Nat.reduceAdd, Nat.reduceSub, Nat.reduceMul, Int.reduceNeg, Nat.reduceLT, Int.reduceToNat, Nat.reduceLeDiff, Nat.sub_zero, h5.obj])
        exact kk
      · have kk := hk _ h5.drop
        (try simp (maxSteps := 1000000) (dsimp := false) (disch := (first | omega | (simp only [okR]; done) | (simp only [sizeR] <;> omega) | fail)) only [↓preR, postR, ↓w_stop, Nat.reduceEqDiff, Nat.reduceAdd, Nat.reduceSub, Nat.reduceMul, Int.reduceNeg, Nat.reduceLT, Int.reduceToNat, Nat.reduceLeDiff, Nat.sub_zero, h5.obj])
        exact kk
  clear hJ1
  by_cases k1 : kd = 1
  · rw [if_pos k1] at hk
    (try simp (maxSteps := 1000000) (dsimp := false) (disch := (first | omega | (simp only [okR]; done) | (simp only [sizeR] <;> omega) | fail)) only [↓preR, postR, ↓w_stop, Nat.reduceEqDiff, Nat.reduceAdd, Nat.reduceSub, Nat.reduceMul, Int.reduceNeg, Nat.reduceLT, Int.reduceToNat, Nat.reduceLeDiff, Nat.sub_zero, h1.obj, k1])
    refine join_now ?_
    cases hqt : qt with
    | false =>
      rw [hqt] at h1 hk
      (try simp (maxSteps := 1000000) (dsimp := false) (disch := (first | omega | (simp only [okR]; done) | (simp only [sizeR] <;> omega) | fail)) only [↓preR, postR, ↓w_stop, Nat.reduceEqDiff, Nat.reduceAdd, Nat.reduceSub, Nat.reduceMul, Int.reduceNeg, Nat.reduceLT, Int.reduceToNat, Nat.reduceLeDiff, Nat.sub_zero, h1.obj])
      exact hk _ h1.drop
    | true =>
      rw [hqt] at h1 hk
      (try simp (maxSteps := 1000000) (dsimp := false) (disch := (first | omega | (simp only [okR]; done) | (simp only [sizeR] <;> omega) | fail)) only [↓preR, postR, ↓w_stop, Nat.reduceEqDiff, Nat.reduceAdd, Nat.reduceSub, Nat.reduceMul, Int.reduceNeg, Nat.reduceLT, Int.reduceToNat, Nat.reduceLeDiff, Nat.sub_zero, h1.obj])
      refine rlit_c hw5 (by omega) h1 fun s5 h5 => ?_
      (try simp (maxSteps := 1000000) (dsimp := false) (disch := (first | omega | (simp only [okR]; done) | (simp only [sizeR] <;> omega) | fail)) only [↓preR, postR, ↓w_stop, Nat.reduceEqDiff, Nat.reduceAdd, Nat.reduceSub, Nat.reduceMul, Int.reduceNeg, Nat.reduceLT, Int.reduceToNat, Nat.reduceLeDiff, Nat.sub_zero])
      exact hk _ h5.drop
  rw [if_neg k1] at hk
  by_cases k2 : kd = 2
  rotate_left
  · rw [if_neg k2] at hk
    by_cases k3 : kd = 3
    · rw [if_pos k3] at hk
      have tl := tail1 ([36, 40] ++ tx ++ [41]) s1 (by simp; omega) hk h1
      (try simp (maxSteps := 1000000) (dsimp := false) (disch := (first | omega | (simp only [okR]; done) | (simp only [sizeR] <;> omega) | fail)) only [↓preR, postR, ↓w_stop, Nat.reduceEqDiff, Nat.reduceAdd, Nat.reduceSub, Nat.reduceMul, Int.reduceNeg, Nat.reduceLT, Int.reduceToNat, Nat.reduceLeDiff, Nat.sub_zero, h1.obj, k1, k2, k3])
      exact tl
    rw [if_neg k3] at hk
    by_cases k4 : kd = 4
    · rw [if_pos k4] at hk
      have tl := tail1 ([36, 40, 40] ++ tx ++ [41, 41]) s1 (by simp; omega) hk h1
      (try simp (maxSteps := 1000000) (dsimp := false) (disch := (first | omega | (simp only [okR]; done) | (simp only [sizeR] <;> omega) | fail)) only [↓preR, postR, ↓w_stop, Nat.reduceEqDiff, Nat.reduceAdd, Nat.reduceSub, Nat.reduceMul, Int.reduceNeg, Nat.reduceLT, Int.reduceToNat, Nat.reduceLeDiff, Nat.sub_zero, h1.obj, k1, k2, k3, k4])
      exact tl
    rw [if_neg k4] at hk
    (try simp (maxSteps := 1000000) (dsimp := false) (disch := (first | omega | (simp only [okR]; done) | (simp only [sizeR] <;> omega) | fail)) only [↓preR, postR, ↓w_stop, Nat.reduceEqDiff, Nat.reduceAdd, Nat.reduceSub, Nat.reduceMul, Int.reduceNeg, Nat.reduceLT, Int.reduceToNat, Nat.reduceLeDiff, Nat.sub_zero, h1.obj, k1, k2, k3, k4])
    exact hk _ h1.drop
  rw [if_pos k2] at hk
  (try simp (maxSteps := 1000000) (dsimp := false) (disch := (first | omega | (simp only [okR]; done) | (simp only [sizeR] <;> omega) | fail)) only [↓preR, postR, ↓w_stop, Nat.reduceEqDiff, Nat.reduceAdd, Nat.reduceSub, Nat.reduceMul, Int.reduceNeg, Nat.reduceLT, Int.reduceToNat, Nat.reduceLeDiff, Nat.sub_zero, h1.obj, k1, k2])
  refine join_by fun J4 hJ4 => ?_
  by_cases ho : op < 0 ∨ 9 < op
  · rw [if_pos ho] at hk
    by_cases ho1 : op < 0
    · (try simp (maxSteps := 1000000) (dsimp := false) (disch := (first | omega | (simp only [okR]; done) | (simp only [sizeR] <;> omega) | fail)) only [↓preR, postR, ↓w_stop, Nat.reduceEqDiff, Nat.reduceAdd, Nat.reduceSub, Nat.reduceMul, Int.reduceNeg, Nat.reduceLT, Int.reduceToNat, Nat.reduceLeDiff, Nat.sub_zero, h1.obj, ho1])
      exact hk _ h1.drop
    · have ho2 : 9 < op := by omega
      (try simp (maxSteps := 1000000) (dsimp := false) (disch := (first | omega | (simp only [okR]; done) | (simp only [sizeR] <;> omega) | fail)) only [↓preR, postR, ↓w_stop, Nat.reduceEqDiff, Nat.reduceAdd, Nat.reduceSub, Nat.reduceMul, Int.reduceNeg, Nat.reduceLT, Int.reduceToNat, Nat.reduceLeDiff, Nat.sub_zero, h1.obj, ho1, ho2])
      exact hk _ h1.drop
  rw [if_neg ho] at hk
  have ho1 : ¬ op < 0 := by omega
  have ho2 : ¬ 9 < op := by omega
  (try simp (maxSteps := 1000000) (dsimp := false) (disch := (first | omega | (simp only [okR]; done) | (simp only [sizeR] <;> omega) | fail)) only [↓preR, postR, ↓w_stop, Nat.reduceEqDiff, Nat.reduceAdd, Nat.reduceSub, Nat.reduceMul, Int.reduceNeg, Nat.reduceLT, Int.reduceToNat, Nat.reduceLeDiff, Nat.sub_zero, h1.obj, ho1, ho2])
  refine hJ4 _ _ ?_
  clear hJ4
  (try simp (maxSteps := 1000000) (dsimp := false) (disch := (first | omega | (simp only [okR]; done) | (simp only [sizeR] <;> omega) | fail)) only [↓preR, postR, ↓w_stop, Nat.reduceEqDiff, Nat.reduceAdd, Nat.reduceSub, Nat.reduceMul, Int.reduceNeg, Nat.reduceLT, Int.reduceToNat, Nat.reduceLeDiff, Nat.sub_zero])
  refine join_by fun J5 hJ5 => ?_
  have tail5 : ∀ A : Str, A.length ≤ 10 → (A = [36, 123] ++ (if op = 1 then [35] else [])) → J5 [.string (bs A)] s1 := by
    intro A hAl hA
    refine hJ5 _ _ ?_
    clear hJ5
    (try simp (maxSteps := 1000000) (dsimp := false) (disch := (first | omega | (simp only [okR]; done) | (simp only [sizeR] <;> omega) | fail)) only [↓preR, postR, ↓w_stop, Nat.reduceEqDiff, Nat.reduceAdd, Nat.reduceSub, Nat.reduceMul, Int.reduceNeg, Nat.reduceLT, Int.reduceToNat, Nat.reduceLeDiff, Nat.sub_zero, h1.obj])
    refine join_by fun J6 hJ6 => ?_
    have tail6 : ∀ B : Str, B.length ≤ 10000 → (B = A ++ tx ++ (if cl = true then [58] else [])) → J6 [.string (bs B)] s1 := by
      intro B hBl hB
      refine hJ6 _ _ ?_
      clear hJ6
      have hsl := sign_len op
      (try simp (maxSteps := 1000000) (dsimp := false) (disch := (first | omega | (simp only [okR]; done) | (simp only [sizeR] <;> omega) | fail)) only [↓preR, postR, ↓w_stop, Nat.reduceEqDiff, Nat.reduceAdd, Nat.reduceSub, Nat.reduceMul, Int.reduceNeg, Nat.reduceLT, Int.reduceToNat, Nat.reduceLeDiff, Nat.sub_zero, h1.obj])
      refine rsign_c (by omega) h1 fun s2 h2 => ?_
      (try simp (maxSteps := 1000000) (dsimp := false) (disch := (first | omega | (simp only [okR]; done) | (simp only [sizeR] <;> omega) | fail)) only [↓preR, postR, ↓w_stop, Nat.reduceEqDiff, Nat.reduceAdd, Nat.reduceSub, Nat.reduceMul, Int.reduceNeg, Nat.reduceLT, Int.reduceToNat, Nat.reduceLeDiff, Nat.sub_zero])
      refine join_by fun J7 hJ7 => ?_
      have tail7 : ∀ nx : Nat, nx = (if 6 ≤ op then 4 else 3) → J7 [.int .i64 nx] s2 := by
        intro nx hnx
        refine hJ7 _ _ ?_
        clear hJ7
        (try simp (maxSteps := 1000000) (dsimp := false) (disch := (first | omega | (simp only [okR]; done) | (simp only [sizeR] <;> omega) | fail)) only [↓preR, postR, ↓w_stop, Nat.reduceEqDiff, Nat.reduceAdd, Nat.reduceSub, Nat.reduceMul, Int.reduceNeg, Nat.reduceLT, Int.reduceToNat, Nat.reduceLeDiff, Nat.sub_zero])
        refine join_by fun J8 hJ8 => ?_
        have tail8 : ∀ nx : Nat, nx = nextP qt op way → J8 [.int .i64 nx] s2 := by
          intro nx hnx
          have hnw : wayOk nx := by
            rw [hnx]
            unfold nextP
            split
            · split
              · exact .inr (.inr (.inr (.inl rfl)))
              · exact .inr (.inr (.inl rfl))
            · exact .inr (.inl rfl)
          refine hJ8 _ _ ?_
          clear hJ8
          (try simp (maxSteps := 1000000) (dsimp := false) (disch := (first | omega | (simp only [okR]; done) | (simp only [sizeR] <;> omega) | fail)) only [↓preR, postR, ↓w_stop, Nat.reduceEqDiff, Nat.reduceAdd, Nat.reduceSub, Nat.reduceMul, Int.reduceNeg, Nat.reduceLT, Int.reduceToNat, Nat.reduceLeDiff, Nat.sub_zero])
          refine join_by fun J9 hJ9 => ?_
          have tail9 : ∀ (D : Str) s3, D.length ≤ 150000 → (D = B ++ (if 2 ≤ op then signP op ++ writtenW wd nx else [])) → Hs s3 X (Cel b [.int .i64 kd, .string (bs tx), .bool qt, .int .i64 op, .bool cl, .slice va vn vc] :: R) → J9 [.string (bs D)] s3 := by
            intro D s3 hDl hD h3
            refine hJ9 _ _ ?_
            have e : D ++ [125] = [36, 123] ++ ((if op = 1 then [35] else []) ++ (tx ++ ((if cl = true then [58] else []) ++ (if 2 ≤ op then signP op ++ writtenW wd (nextP qt op way) else [])))) ++ [125] := by
              rw [hD, hB, hA, hnx]
              simp only [List.append_assoc]
            have tl := tail1 (D ++ [125]) s3 (by rw [List.length_append]; simp; omega) (by rw [e]; exact hk) h3
            (try simp (maxSteps := 1000000) (dsimp := false) (disch := (first | omega | (simp only [okR]; done) | (simp only [sizeR] <;> omega) | fail)) only [↓preR, postR, ↓w_stop, Nat.reduceEqDiff, Nat.reduceAdd, Nat.reduceSub, Nat.reduceMul, Int.reduceNeg, Nat.reduceLT, Int.reduceToNat, Nat.reduceLeDiff, Nat.sub_zero])
            exact tl
          clear hJ9
          by_cases h2o : 2 ≤ op
          · have hw2 := hwrl nx
            (try simp (maxSteps := 1000000) (dsimp := false) (disch := (first | omega | (simp only [okR]; done) | (simp only [sizeR] <;> omega) | fail)) only [↓preR, postR, ↓w_stop, Nat.reduceEqDiff, Nat.reduceAdd, Nat.reduceSub, Nat.reduceMul, Int.reduceNeg, Nat.reduceLT, Int.reduceToNat, Nat.reduceLeDiff, Nat.sub_zero, h2.obj, h2o])
            refine ih (by omega) hwl hnw hxw h2 fun s3 h3 => ?_
            (try simp (maxSteps := 1000000) (dsimp := false) (disch := (first | omega | (simp only [okR]; done) | (simp only [sizeR] <;> omega) | fail)) only [↓preR, postR, ↓w_stop, Nat.reduceEqDiff, Nat.reduceAdd, Nat.reduceSub, Nat.reduceMul, Int.reduceNeg, Nat.reduceLT, Int.reduceToNat, Nat.reduceLeDiff, Nat.sub_zero])
            exact tail9 (B ++ signP op ++ writtenW wd nx) s3 (by simp only [List.length_append]; omega) (by rw [if_pos h2o, List.append_assoc]) h3
          · have e0 : signP op = [] := by
              unfold signP
              rw [if_neg (by omega), if_neg (by omega), if_neg (by omega), if_neg (by omega), if_neg (by omega), if_neg (by omega), if_neg (by omega), if_neg (by omega)]
            have tl := tail9 (B ++ signP op) s2 (by simp only [List.length_append]; omega) (by rw [if_neg h2o, e0]) h2
            (try simp (maxSteps := 1000000) (dsimp := false) (disch := (first | omega | (simp only [okR]; done) | (simp only [sizeR] <;> omega) | fail)) only [↓preR, postR, ↓w_stop, Nat.reduceEqDiff, Nat.reduceAdd, Nat.reduceSub, Nat.reduceMul, Int.reduceNeg, Nat.reduceLT, Int.reduceToNat, Nat.reduceLeDiff, Nat.sub_zero, h2.obj, h2o])
            exact tl
        clear hJ8
        unfold nextP at tail8
        cases qt with
        | true =>
          have tl := tail8 nx (by rw [Bool.true_or, if_pos rfl]; exact hnx)
          (try simp (maxSteps := 1000000) (dsimp := false) (disch := (first | omega | (simp only [okR]; done) | (simp only [sizeR] <;> omega) | fail)) only [↓preR, postR, ↓w_stop, Nat.reduceEqDiff, Nat.reduceAdd, Nat.reduceSub, Nat.reduceMul, Int.reduceNeg, Nat.reduceLT, Int.reduceToNat, Nat.reduceLeDiff, Nat.sub_zero, h2.obj])
          exact tl
        | false =>
          rw [Bool.false_or] at tail8
          rcases hw with rfl | rfl | rfl | rfl | rfl
          · have tl := tail8 1 (by rw [if_neg (by decide)])
            (try simp (maxSteps := 1000000) (dsimp := false) (disch := (first | omega | (simp only [okR]; done) | (simp only [sizeR] <;> omega) | fail)) only [↓preR, postR, ↓w_stop, Nat.reduceEqDiff, Nat.reduceAdd, Nat.reduceSub, Nat.reduceMul, Int.reduceNeg, Nat.reduceLT, Int.reduceToNat, Nat.reduceLeDiff, Nat.sub_zero, h2.obj])
            exact tl
          · have tl := tail8 1 (by rw [if_neg (by decide)])
            (try simp (maxSteps := 1000000) (dsimp := false) (disch := (first | omega | (simp only [okR]; done) | (simp only [sizeR] <;> omega) | fail)) only [↓preR, postR, ↓w_stop, Nat.reduceEqDiff, Nat.reduceAdd, Nat.reduceSub, Nat.reduceMul, Int.reduceNeg, Nat.reduceLT, Int.reduceToNat, Nat.reduceLeDiff, Nat.sub_zero, h2.obj])
            exact tl
          · have tl := tail8 nx (by rw [if_pos (by decide)]; exact hnx)
            (try simp (maxSteps := 1000000) (dsimp := false) (disch := (first | omega | (simp only [okR]; done) | (simp only [sizeR] <;> omega) | fail)) only [↓preR, postR, ↓w_stop, Nat.reduceEqDiff, Nat.reduceAdd, Nat.reduceSub, Nat.reduceMul, Int.reduceNeg, Nat.reduceLT, Int.reduceToNat, Nat.reduceLeDiff, Nat.sub_zero, h2.obj])
            exact tl
          · have tl := tail8 nx (by rw [if_pos (by decide)]; exact hnx)
            (try simp (maxSteps := 1000000) (dsimp := false) (disch := (first | omega | (simp only [okR]; done) | (simp only [sizeR] <;> omega) | fail)) only [↓preR, postR, ↓w_stop, Nat.reduceEqDiff, Nat.reduceAdd, Nat.reduceSub, Nat.reduceMul, Int.reduceNeg, Nat.reduceLT, Int.reduceToNat, Nat.reduceLeDiff, Nat.sub_zero, h2.obj])
            exact tl
          · have tl := tail8 nx (by rw [if_pos (by decide)]; exact hnx)
            (try simp (maxSteps := 1000000) (dsimp := false) (disch := (first | omega | (simp only [okR]; done) | (simp only [sizeR] <;> omega) | fail)) only [↓preR, postR, ↓w_stop, Nat.reduceEqDiff, Nat.reduceAdd, Nat.reduceSub, Nat.reduceMul, Int.reduceNeg, Nat.reduceLT, Int.reduceToNat, Nat.reduceLeDiff, Nat.sub_zero, h2.obj])
            exact tl
      clear hJ7
      by_cases h6 : 6 ≤ op
      · have tl := tail7 4 (by rw [if_pos h6])
        (try simp (maxSteps := 1000000) (dsimp := false) (disch := (first | omega | (simp only [okR]; done) | (simp only [sizeR] <;> omega) | fail)) only [↓preR, postR, ↓w_stop, Nat.reduceEqDiff, Nat.reduceAdd, Nat.reduceSub, Nat.reduceMul, Int.reduceNeg, Nat.reduceLT, Int.reduceToNat, Nat.reduceLeDiff, Nat.sub_zero, h2.obj, h6])
        exact tl
      · have tl := tail7 3 (by rw [if_neg h6])
        (try simp (maxSteps := 1000000) (dsimp := false) (disch := (first | omega | (simp only [okR]; done) | (simp only [sizeR] <;> omega) | fail)) only [↓preR, postR, ↓w_stop, Nat.reduceEqDiff, Nat.reduceAdd, Nat.reduceSub, Nat.reduceMul, Int.reduceNeg, Nat.reduceLT, Int.reduceToNat, Nat.reduceLeDiff, Nat.sub_zero, h2.obj, h6])
        exact tl
    clear hJ6
    cases cl with
    | true =>
      have tl := tail6 (A ++ tx ++ [58]) (by simp only [List.length_append, List.length_singleton]; omega) (by rw [if_pos rfl])
      (try simp (maxSteps := 1000000) (dsimp := false) (disch := (first | omega | (simp only [okR]; done) | (simp only [sizeR] <;> omega) | fail)) only [↓preR, postR, ↓w_stop, Nat.reduceEqDiff, Nat.reduceAdd, Nat.reduceSub, Nat.reduceMul, Int.reduceNeg, Nat.reduceLT, Int.reduceToNat, Nat.reduceLeDiff, Nat.sub_zero, h1.obj])
      exact tl
    | false =>
      have tl := tail6 (A ++ tx) (by simp only [List.length_append]; omega) (by rw [if_neg (by decide), List.append_nil])
      (try simp (maxSteps := 1000000) (dsimp := false) (disch := (first | omega | (simp only [okR]; done) | (simp only [sizeR] <;> omega) | fail)) only [↓preR, postR, ↓w_stop, Nat.reduceEqDiff, Nat.reduceAdd, Nat.reduceSub, Nat.reduceMul, Int.reduceNeg, Nat.reduceLT, Int.reduceToNat, Nat.reduceLeDiff, Nat.sub_zero, h1.obj])
      exact tl
  clear hJ5
  by_cases h1o : op = 1
  · have tl := tail5 [36, 123, 35] (by decide) (by rw [if_pos h1o]; rfl)
    (try simp (maxSteps := 1000000) (dsimp := false) (disch := (first | omega | (simp only [okR]; done) | (simp only [sizeR] <;> omega) | fail)) only [↓preR, postR, ↓w_stop, Nat.reduceEqDiff, Nat.reduceAdd, Nat.reduceSub, Nat.reduceMul, Int.reduceNeg, Nat.reduceLT, Int.reduceToNat, Nat.reduceLeDiff, Nat.sub_zero, h1.obj, h1o])
    first
      | exact tl
      | (rw [h1o] at tl; exact tl)
  · have tl := tail5 [36, 123] (by decide) (by rw [if_neg h1o]; rfl)
    (try simp (maxSteps := 1000000) (dsimp := false) (disch := (first | omega | (simp only [okR]; done) | (simp only [sizeR] <;> omega) | fail)) only [↓preR, postR, ↓w_stop, Nat.reduceEqDiff, Nat.reduceAdd, Nat.reduceSub, Nat.reduceMul, Int.reduceNeg, Nat.reduceLT, Int.reduceToNat, Nat.reduceLeDiff, Nat.sub_zero, h1.obj, h1o])
    exact tl
theorem rwritten_c : ∀ n, WrR n := by
  intro n
  induction n with
  | zero => intro σ X R k w v way hn; omega
  | succ n ih =>
    intro σ X R k w v way hn hsz hw hv h hk
    obtain ⟨a, b, o, cap, rfl, hc, hm, hat⟩ := pts_at hv
    unfold maxLen at hm
    have hwl := written_len w way
    refine f21 ?_
    (try simp (maxSteps := 1000000) (dsimp := false) (disch := (first | omega | (simp only [okR]; done) | (simp only [sizeR] <;> omega) | fail)) only [↓preR, postR, ↓w_stop, Nat.reduceEqDiff, Nat.reduceAdd, Nat.reduceSub, Nat.reduceMul, Int.reduceNeg, Nat.reduceLT, Int.reduceToNat, Nat.reduceLeDiff, Nat.sub_zero, F21])
    refine join_by fun J1 hJ1 => ?_
    have tail : ∀ s2, Hs s2 X R → J1 [.string (bs (writtenW w way))] s2 := by
      intro s2 h2
      refine hJ1 _ _ ?_
      (try simp (maxSteps := 1000000) (dsimp := false) (disch := (first | omega | (simp only [okR]; done) | (simp only [sizeR] <;> omega) | fail)) only [↓preR, postR, ↓w_stop, Nat.reduceEqDiff, Nat.reduceAdd, Nat.reduceSub, Nat.reduceMul, Int.reduceNeg, Nat.reduceLT, Int.reduceToNat, Nat.reduceLeDiff, Nat.sub_zero])
      exact hk _ h2
    clear hJ1
    refine loop_inv (fun nn xs s2 => ∃ j : Nat, xs = [.string (bs (writtenW (w.take j) way)), .int .i64 j] ∧ j ≤ w.length ∧ Hs s2 X R ∧ nn = w.length - j) _ ⟨0, by simp [writtenW], Nat.zero_le _, h, rfl⟩ ?_
    rintro _ _ s2 again ⟨j, rfl, hj, h2, rfl⟩ hag
    (try simp (maxSteps := 1000000) (dsimp := false) (disch := (first | omega | (simp only [okR]; done) | (simp only [sizeR] <;> omega) | fail)) only [↓preR, postR, ↓w_stop, Nat.reduceEqDiff, Nat.reduceAdd, Nat.reduceSub, Nat.reduceMul, Int.reduceNeg, Nat.reduceLT, Int.reduceToNat, Nat.reduceLeDiff, Nat.sub_zero])
    refine join_by fun J3 hJ3 => ?_
    by_cases hlt : j < w.length
    · have hwt := wr_take w j way hlt
      have hwt2 := wr_len_take w j way
      obtain ⟨rfl, u, g0, g1, g2, g3, g4, c0, c1, c2, c3, c4, c5⟩ := hat j hlt
      have hszl := sz_get w j hlt
      generalize w[j] = x at *
      have hszx := szPt_word x
      have hpl := part_len x way
      obtain ⟨va, vn, vc, rfl⟩ := g0.val
      have d0 := h2.ldx c0
      have d1 := h2.ldx c1
      have d2 := h2.ldx c2
      have d3 := h2.ldx c3
      have d4 := h2.ldx c4
      have d5 := h2.ldx c5
      (try simp (maxSteps := 1000000) (dsimp := false) (disch := (first | omega | (simp only [okR]; done) | (simp only [sizeR] <;> omega) | fail)) only [↓preR, postR, ↓w_stop, Nat.reduceEqDiff, Nat.reduceAdd, Nat.reduceSub, Nat.reduceMul, Int.reduceNeg, Nat.reduceLT, Int.reduceToNat, Nat.reduceLeDiff, Nat.sub_zero])
      refine hJ3 _ _ ?_
      clear hJ3
      (try simp (maxSteps := 1000000) (dsimp := false) (disch := (first | omega | (simp only [okR]; done) | (simp only [sizeR] <;> omega) | fail)) only [↓preR, postR, ↓w_stop, Nat.reduceEqDiff, Nat.reduceAdd, Nat.reduceSub, Nat.reduceMul, Int.reduceNeg, Nat.reduceLT, Int.reduceToNat, Nat.reduceLeDiff, Nat.sub_zero])
      refine join_by fun J4 hJ4 => ?_
      (try simp (maxSteps := 1000000) (dsimp := false) (disch := (first | omega | (simp only [okR]; done) | (simp only [sizeR] <;> omega) | fail)) only [↓preR, postR, ↓w_stop, Nat.reduceEqDiff, Nat.reduceAdd, Nat.reduceSub, Nat.reduceMul, Int.reduceNeg, Nat.reduceLT, Int.reduceToNat, Nat.reduceLeDiff, Nat.sub_zero, d0, d1, d2, d3, d4, d5])
      refine rpart_c ih g0 (by omega) (by omega) hw h2 fun s4 h5 => ?_
      (try simp (maxSteps := 1000000) (dsimp := false) (disch := (first | omega | (simp only [okR]; done) | (simp only [sizeR] <;> omega) | fail)) only [↓preR, postR, ↓w_stop, Nat.reduceEqDiff, Nat.reduceAdd, Nat.reduceSub, Nat.reduceMul, Int.reduceNeg, Nat.reduceLT, Int.reduceToNat, Nat.reduceLeDiff, Nat.sub_zero])
      refine hJ4 _ _ ?_
      (try simp (maxSteps := 1000000) (dsimp := false) (disch := (first | omega | (simp only [okR]; done) | (simp only [sizeR] <;> omega) | fail)) only [↓preR, postR, ↓w_stop, Nat.reduceEqDiff, Nat.reduceAdd, Nat.reduceSub, Nat.reduceMul, Int.reduceNeg, Nat.reduceLT, Int.reduceToNat, Nat.reduceLeDiff, Nat.sub_zero])
      rw [← hwt]
      exact hag _ _ _ ⟨j + 1, rfl, hlt, h5, rfl⟩ (by omega)
    · have tl := tail s2 h2
      rw [List.take_of_length_le (by omega)]
      (try simp (maxSteps := 1000000) (dsimp := false) (disch := (first | omega | (simp only [okR]; done) | (simp only [sizeR] <;> omega) | fail)) only [↓preR, postR, ↓w_stop, Nat.reduceEqDiff, Nat.reduceAdd, Nat.reduceSub, Nat.reduceMul, Int.reduceNeg, Nat.reduceLT, Int.reduceToNat, Nat.reduceLeDiff, Nat.sub_zero])
      exact tl
end
end Go.Proofs.YtmgdkoidgoihfaaGreatDoor

/- How a word is written: the law. Conditions: as each theorem says. -/
namespace Go.Proofs.YtmgdkoidgoihfaaGreatDoor
open E Go.Lib
open Go.RowKit
set_option linter.unusedVariables false
set_option linter.unusedSimpArgs false
set_option maxHeartbeats 1000000
set_option maxRecDepth 20000

def litO : List Pt → Option Str
  | [] => some []
  | p :: l => if p.kind = 1 then (litO l).map (p.text ++ ·) else none
abbrev litA (w : List Pt) : Value := match litO w with
  | some s => .tuple #[.string (bs s), .bool true]
  | none => .tuple #[.string (bs []), .bool false]
section
variable {σ σ' : AS} {X : Ce} {R : List Ck} {k : Value → AS → Prop} {p n i f : Nat} {s t set : Str} {c : UInt8} {way : Nat} {q : Bool} {w : List Pt} {v : Value}
theorem printHere_c (hsz : szW w ≤ 8000) (hQ : hasQ w = true → QuoteC X) (hv : RepL X v w) (h : Hs σ X R) (hk : ∀ X' σ', Ce.le X X' → Hs σ' X' R → k (prV (printW w 5)) σ') : kCall Tryz.prog 14 [v] σ k := by
  have hwl := written_len w 5
  refine f14 ?_
  (try simp (maxSteps := 1000000) (dsimp := false) (disch := (first | omega | (simp only [okR]; done) | (simp only [sizeR] <;> omega) | fail)) only [↓preR, postR, ↓w_stop, Nat.reduceEqDiff, Nat.reduceAdd, Nat.reduceSub, Nat.reduceMul, Int.reduceNeg, Nat.reduceLT, Int.reduceToNat, Nat.reduceLeDiff, Nat.sub_zero, F14])
  refine f20 ?_
  (try simp (maxSteps := 1000000) (dsimp := false) (disch := (first | omega | (simp only [okR]; done) | (simp only [sizeR] <;> omega) | fail)) only [↓preR, postR, ↓w_stop, Nat.reduceEqDiff, Nat.reduceAdd, Nat.reduceSub, Nat.reduceMul, Int.reduceNeg, Nat.reduceLT, Int.reduceToNat, Nat.reduceLeDiff, Nat.sub_zero, F20])
  refine written_c _ (way := 5) (Nat.lt_succ_self _) hsz (by omega) hQ hv h fun s1 h1 => ?_
  (try simp (maxSteps := 1000000) (dsimp := false) (disch := (first | omega | (simp only [okR]; done) | (simp only [sizeR] <;> omega) | fail)) only [↓preR, postR, ↓w_stop, Nat.reduceEqDiff, Nat.reduceAdd, Nat.reduceSub, Nat.reduceMul, Int.reduceNeg, Nat.reduceLT, Int.reduceToNat, Nat.reduceLeDiff, Nat.sub_zero])
  refine ⟨k8_ok, ?_⟩
  refine here_c (s := writtenW w 5) h1 ?_ (by unfold maxLen; omega)
  unfold printW at hk
  have hbad : ∀ e, wordW (writtenW w 5) 5 = .bad e → ¬ e = 0 := by
    intro e he
    unfold wordW at he
    split at he
    · cases he; decide
    · exact rd_ne _ _ _ _ _ (by omega) he
  cases hp : wordW (writtenW w 5) 5 with
  | bad e =>
    rw [hp] at hk
    have he := hbad e hp
    intro X' s2 hX h2
    (try simp (maxSteps := 1000000) (dsimp := false) (disch := (first | omega | (simp only [okR]; done) | (simp only [sizeR] <;> omega) | fail)) only [↓preR, postR, ↓w_stop, Nat.reduceEqDiff, Nat.reduceAdd, Nat.reduceSub, Nat.reduceMul, Int.reduceNeg, Nat.reduceLT, Int.reduceToNat, Nat.reduceLeDiff, Nat.sub_zero])
    refine join_now ?_
    (try simp (maxSteps := 1000000) (dsimp := false) (disch := (first | omega | (simp only [okR]; done) | (simp only [sizeR] <;> omega) | fail)) only [↓preR, postR, ↓w_stop, Nat.reduceEqDiff, Nat.reduceAdd, Nat.reduceSub, Nat.reduceMul, Int.reduceNeg, Nat.reduceLT, Int.reduceToNat, Nat.reduceLeDiff, Nat.sub_zero, he])
    exact hk X' _ hX h2
  | ok u =>
    rw [hp] at hk
    simp only at hk
    intro X' vv s2 hX hvv h2
    (try simp (maxSteps := 1000000) (dsimp := false) (disch := (first | omega | (simp only [okR]; done) | (simp only [sizeR] <;> omega) | fail)) only [↓preR, postR, ↓w_stop, Nat.reduceEqDiff, Nat.reduceAdd, Nat.reduceSub, Nat.reduceMul, Int.reduceNeg, Nat.reduceLT, Int.reduceToNat, Nat.reduceLeDiff, Nat.sub_zero])
    refine join_now ?_
    (try simp (maxSteps := 1000000) (dsimp := false) (disch := (first | omega | (simp only [okR]; done) | (simp only [sizeR] <;> omega) | fail)) only [↓preR, postR, ↓w_stop, Nat.reduceEqDiff, Nat.reduceAdd, Nat.reduceSub, Nat.reduceMul, Int.reduceNeg, Nat.reduceLT, Int.reduceToNat, Nat.reduceLeDiff, Nat.sub_zero])
    refine same_c _ (Nat.lt_succ_self _) hvv (hv.mono hX) h2 fun s3 h3 => ?_
    cases he : eqW u w with
    | true =>
      rw [he] at hk
      (try simp (maxSteps := 1000000) (dsimp := false) (disch := (first | omega | (simp only [okR]; done) | (simp only [sizeR] <;> omega) | fail)) only [↓preR, postR, ↓w_stop, Nat.reduceEqDiff, Nat.reduceAdd, Nat.reduceSub, Nat.reduceMul, Int.reduceNeg, Nat.reduceLT, Int.reduceToNat, Nat.reduceLeDiff, Nat.sub_zero])
      exact hk X' _ hX h3
    | false =>
      rw [he] at hk
      (try simp (maxSteps := 1000000) (dsimp := false) (disch := (first | omega | (simp only [okR]; done) | (simp only [sizeR] <;> omega) | fail)) only [↓preR, postR, ↓w_stop, Nat.reduceEqDiff, Nat.reduceAdd, Nat.reduceSub, Nat.reduceMul, Int.reduceNeg, Nat.reduceLT, Int.reduceToNat, Nat.reduceLeDiff, Nat.sub_zero])
      exact hk X' _ hX h3
theorem rprint_c (hsz : szW w ≤ 8000) (hv : RepL X v w) (h : Hs σ X R) (hk : ∀ X' σ', Ce.le X X' → Hs σ' X' R → k (prV (printW w 0)) σ') : kCall Tryz.prog 13 [v] σ k := by
  have hwl := written_len w 0
  refine f13 ?_
  (try simp (maxSteps := 1000000) (dsimp := false) (disch := (first | omega | (simp only [okR]; done) | (simp only [sizeR] <;> omega) | fail)) only [↓preR, postR, ↓w_stop, Nat.reduceEqDiff, Nat.reduceAdd, Nat.reduceSub, Nat.reduceMul, Int.reduceNeg, Nat.reduceLT, Int.reduceToNat, Nat.reduceLeDiff, Nat.sub_zero, F13])
  refine rwritten_c _ (way := 0) (Nat.lt_succ_self _) hsz (.inl rfl) hv h fun s1 h1 => ?_
  (try simp (maxSteps := 1000000) (dsimp := false) (disch := (first | omega | (simp only [okR]; done) | (simp only [sizeR] <;> omega) | fail)) only [↓preR, postR, ↓w_stop, Nat.reduceEqDiff, Nat.reduceAdd, Nat.reduceSub, Nat.reduceMul, Int.reduceNeg, Nat.reduceLT, Int.reduceToNat, Nat.reduceLeDiff, Nat.sub_zero])
  refine qparse_c (s := writtenW w 0) h1 ?_ (by unfold maxLen; omega)
  unfold printW at hk
  have hbad : ∀ e, wordW (writtenW w 0) 0 = .bad e → ¬ e = 0 := by
    intro e he
    unfold wordW at he
    split at he
    · cases he; decide
    · exact rd_ne _ _ _ _ _ (by omega) he
  cases hp : wordW (writtenW w 0) 0 with
  | bad e =>
    rw [hp] at hk
    have he := hbad e hp
    intro X' s2 hX h2
    (try simp (maxSteps := 1000000) (dsimp := false) (disch := (first | omega | (simp only [okR]; done) | (simp only [sizeR] <;> omega) | fail)) only [↓preR, postR, ↓w_stop, Nat.reduceEqDiff, Nat.reduceAdd, Nat.reduceSub, Nat.reduceMul, Int.reduceNeg, Nat.reduceLT, Int.reduceToNat, Nat.reduceLeDiff, Nat.sub_zero])
    refine join_now ?_
    (try simp (maxSteps := 1000000) (dsimp := false) (disch := (first | omega | (simp only [okR]; done) | (simp only [sizeR] <;> omega) | fail)) only [↓preR, postR, ↓w_stop, Nat.reduceEqDiff, Nat.reduceAdd, Nat.reduceSub, Nat.reduceMul, Int.reduceNeg, Nat.reduceLT, Int.reduceToNat, Nat.reduceLeDiff, Nat.sub_zero, he])
    exact hk X' _ hX h2
  | ok u =>
    rw [hp] at hk
    simp only at hk
    intro X' vv s2 hX hvv h2
    (try simp (maxSteps := 1000000) (dsimp := false) (disch := (first | omega | (simp only [okR]; done) | (simp only [sizeR] <;> omega) | fail)) only [↓preR, postR, ↓w_stop, Nat.reduceEqDiff, Nat.reduceAdd, Nat.reduceSub, Nat.reduceMul, Int.reduceNeg, Nat.reduceLT, Int.reduceToNat, Nat.reduceLeDiff, Nat.sub_zero])
    refine join_now ?_
    (try simp (maxSteps := 1000000) (dsimp := false) (disch := (first | omega | (simp only [okR]; done) | (simp only [sizeR] <;> omega) | fail)) only [↓preR, postR, ↓w_stop, Nat.reduceEqDiff, Nat.reduceAdd, Nat.reduceSub, Nat.reduceMul, Int.reduceNeg, Nat.reduceLT, Int.reduceToNat, Nat.reduceLeDiff, Nat.sub_zero])
    refine rsame_c _ (Nat.lt_succ_self _) hvv (hv.mono hX) h2 fun s3 h3 => ?_
    cases he : eqW u w with
    | true =>
      rw [he] at hk
      (try simp (maxSteps := 1000000) (dsimp := false) (disch := (first | omega | (simp only [okR]; done) | (simp only [sizeR] <;> omega) | fail)) only [↓preR, postR, ↓w_stop, Nat.reduceEqDiff, Nat.reduceAdd, Nat.reduceSub, Nat.reduceMul, Int.reduceNeg, Nat.reduceLT, Int.reduceToNat, Nat.reduceLeDiff, Nat.sub_zero])
      exact hk X' _ hX h3
    | false =>
      rw [he] at hk
      (try simp (maxSteps := 1000000) (dsimp := false) (disch := (first | omega | (simp only [okR]; done) | (simp only [sizeR] <;> omega) | fail)) only [↓preR, postR, ↓w_stop, Nat.reduceEqDiff, Nat.reduceAdd, Nat.reduceSub, Nat.reduceMul, Int.reduceNeg, Nat.reduceLT, Int.reduceToNat, Nat.reduceLeDiff, Nat.sub_zero])
      exact hk X' _ hX h3
theorem rprintHere_c (hsz : szW w ≤ 8000) (hv : RepL X v w) (h : Hs σ X R) (hk : ∀ X' σ', Ce.le X X' → Hs σ' X' R → k (prV (printW w 5)) σ') : kCall Tryz.prog 15 [v] σ k := by
  have hwl := written_len w 5
  refine f15 ?_
  (try simp (maxSteps := 1000000) (dsimp := false) (disch := (first | omega | (simp only [okR]; done) | (simp only [sizeR] <;> omega) | fail)) only [↓preR, postR, ↓w_stop, Nat.reduceEqDiff, Nat.reduceAdd, Nat.reduceSub, Nat.reduceMul, Int.reduceNeg, Nat.reduceLT, Int.reduceToNat, Nat.reduceLeDiff, Nat.sub_zero, F15])
  refine rwritten_c _ (way := 5) (Nat.lt_succ_self _) hsz (.inr (.inr (.inr (.inr rfl)))) hv h fun s1 h1 => ?_
  (try simp (maxSteps := 1000000) (dsimp := false) (disch := (first | omega | (simp only [okR]; done) | (simp only [sizeR] <;> omega) | fail)) only [↓preR, postR, ↓w_stop, Nat.reduceEqDiff, Nat.reduceAdd, Nat.reduceSub, Nat.reduceMul, Int.reduceNeg, Nat.reduceLT, Int.reduceToNat, Nat.reduceLeDiff, Nat.sub_zero])
  refine qhere_c (s := writtenW w 5) h1 ?_ (by unfold maxLen; omega)
  unfold printW at hk
  have hbad : ∀ e, wordW (writtenW w 5) 5 = .bad e → ¬ e = 0 := by
    intro e he
    unfold wordW at he
    split at he
    · cases he; decide
    · exact rd_ne _ _ _ _ _ (by omega) he
  cases hp : wordW (writtenW w 5) 5 with
  | bad e =>
    rw [hp] at hk
    have he := hbad e hp
    intro X' s2 hX h2
    (try simp (maxSteps := 1000000) (dsimp := false) (disch := (first | omega | (simp only [okR]; done) | (simp only [sizeR] <;> omega) | fail)) only [↓preR, postR, ↓w_stop, Nat.reduceEqDiff, Nat.reduceAdd, Nat.reduceSub, Nat.reduceMul, Int.reduceNeg, Nat.reduceLT, Int.reduceToNat, Nat.reduceLeDiff, Nat.sub_zero])
    refine join_now ?_
    (try simp (maxSteps := 1000000) (dsimp := false) (disch := (first | omega | (simp only [okR]; done) | (simp only [sizeR] <;> omega) | fail)) only [↓preR, postR, ↓w_stop, Nat.reduceEqDiff, Nat.reduceAdd, Nat.reduceSub, Nat.reduceMul, Int.reduceNeg, Nat.reduceLT, Int.reduceToNat, Nat.reduceLeDiff, Nat.sub_zero, he])
    exact hk X' _ hX h2
  | ok u =>
    rw [hp] at hk
    simp only at hk
    intro X' vv s2 hX hvv h2
    (try simp (maxSteps := 1000000) (dsimp := false) (disch := (first | omega | (simp only [okR]; done) | (simp only [sizeR] <;> omega) | fail)) only [↓preR, postR, ↓w_stop, Nat.reduceEqDiff, Nat.reduceAdd, Nat.reduceSub, Nat.reduceMul, Int.reduceNeg, Nat.reduceLT, Int.reduceToNat, Nat.reduceLeDiff, Nat.sub_zero])
    refine join_now ?_
    (try simp (maxSteps := 1000000) (dsimp := false) (disch := (first | omega | (simp only [okR]; done) | (simp only [sizeR] <;> omega) | fail)) only [↓preR, postR, ↓w_stop, Nat.reduceEqDiff, Nat.reduceAdd, Nat.reduceSub, Nat.reduceMul, Int.reduceNeg, Nat.reduceLT, Int.reduceToNat, Nat.reduceLeDiff, Nat.sub_zero])
    refine rsame_c _ (Nat.lt_succ_self _) hvv (hv.mono hX) h2 fun s3 h3 => ?_
    cases he : eqW u w with
    | true =>
      rw [he] at hk
      (try simp (maxSteps := 1000000) (dsimp := false) (disch := (first | omega | (simp only [okR]; done) | (simp only [sizeR] <;> omega) | fail)) only [↓preR, postR, ↓w_stop, Nat.reduceEqDiff, Nat.reduceAdd, Nat.reduceSub, Nat.reduceMul, Int.reduceNeg, Nat.reduceLT, Int.reduceToNat, Nat.reduceLeDiff, Nat.sub_zero])
      exact hk X' _ hX h3
    | false =>
      rw [he] at hk
      (try simp (maxSteps := 1000000) (dsimp := false) (disch := (first | omega | (simp only [okR]; done) | (simp only [sizeR] <;> omega) | fail)) only [↓preR, postR, ↓w_stop, Nat.reduceEqDiff, Nat.reduceAdd, Nat.reduceSub, Nat.reduceMul, Int.reduceNeg, Nat.reduceLT, Int.reduceToNat, Nat.reduceLeDiff, Nat.sub_zero])
      exact hk X' _ hX h3
theorem rliteral_c (hsz : szW w ≤ 8000) (hv : RepL X v w) (h : Hs σ X R) (hk : k (litA w) σ) : kCall Tryz.prog 17 [v] σ k := by
  obtain ⟨a, b, o, cap, rfl, hc, hm, hat⟩ := pts_at hv
  unfold maxLen at hm
  refine f17 ?_
  (try simp (maxSteps := 1000000) (dsimp := false) (disch := (first | omega | (simp only [okR]; done) | (simp only [sizeR] <;> omega) | fail)) only [↓preR, postR, ↓w_stop, Nat.reduceEqDiff, Nat.reduceAdd, Nat.reduceSub, Nat.reduceMul, Int.reduceNeg, Nat.reduceLT, Int.reduceToNat, Nat.reduceLeDiff, Nat.sub_zero, F17])
  refine join_by fun J1 hJ1 => ?_
  unfold litA at hk
  refine loop_inv (fun nn xs s2 => ∃ (j : Nat) (acc : Str), xs = [.string (bs acc), .int .i64 j] ∧ σ = s2 ∧ j ≤ w.length ∧ acc.length + szW (w.drop j) ≤ szW w ∧ litO w = (litO (w.drop j)).map (acc ++ ·) ∧ nn = w.length - j) _ ⟨0, [], rfl, rfl, Nat.zero_le _, by simp, by simp, rfl⟩ ?_
  rintro _ _ s2 again ⟨j, acc, rfl, rfl, hj, hb, he, rfl⟩ hag
  (try simp (maxSteps := 1000000) (dsimp := false) (disch := (first | omega | (simp only [okR]; done) | (simp only [sizeR] <;> omega) | fail)) only [↓preR, postR, ↓w_stop, Nat.reduceEqDiff, Nat.reduceAdd, Nat.reduceSub, Nat.reduceMul, Int.reduceNeg, Nat.reduceLT, Int.reduceToNat, Nat.reduceLeDiff, Nat.sub_zero])
  refine join_by fun J3 hJ3 => ?_
  by_cases hlt : j < w.length
  rotate_left
  · rw [List.drop_of_length_le (by omega)] at he
    rw [he] at hk
    have hk2 : k (.tuple #[.string (bs acc), .bool true]) σ := by simpa [litO] using hk
    (try simp (maxSteps := 1000000) (dsimp := false) (disch := (first | omega | (simp only [okR]; done) | (simp only [sizeR] <;> omega) | fail)) only [↓preR, postR, ↓w_stop, Nat.reduceEqDiff, Nat.reduceAdd, Nat.reduceSub, Nat.reduceMul, Int.reduceNeg, Nat.reduceLT, Int.reduceToNat, Nat.reduceLeDiff, Nat.sub_zero])
    refine hJ1 _ _ ?_
    (try simp (maxSteps := 1000000) (dsimp := false) (disch := (first | omega | (simp only [okR]; done) | (simp only [sizeR] <;> omega) | fail)) only [↓preR, postR, ↓w_stop, Nat.reduceEqDiff, Nat.reduceAdd, Nat.reduceSub, Nat.reduceMul, Int.reduceNeg, Nat.reduceLT, Int.reduceToNat, Nat.reduceLeDiff, Nat.sub_zero])
    exact hk2
  rw [sz_drop w j hlt] at hb
  rw [List.drop_eq_getElem_cons hlt] at he
  obtain ⟨rfl, u, g0, g1, g2, g3, g4, c0, c1, c2, c3, c4, c5⟩ := hat j hlt
  generalize w[j] = x at *
  rw [szPt_def] at hb
  have d0 := h.ldx c0
  have d1 := h.ldx c1
  (try simp (maxSteps := 1000000) (dsimp := false) (disch := (first | omega | (simp only [okR]; done) | (simp only [sizeR] <;> omega) | fail)) only [↓preR, postR, ↓w_stop, Nat.reduceEqDiff, Nat.reduceAdd, Nat.reduceSub, Nat.reduceMul, Int.reduceNeg, Nat.reduceLT, Int.reduceToNat, Nat.reduceLeDiff, Nat.sub_zero])
  refine hJ3 _ _ ?_
  clear hJ3 hJ1
  (try simp (maxSteps := 1000000) (dsimp := false) (disch := (first | omega | (simp only [okR]; done) | (simp only [sizeR] <;> omega) | fail)) only [↓preR, postR, ↓w_stop, Nat.reduceEqDiff, Nat.reduceAdd, Nat.reduceSub, Nat.reduceMul, Int.reduceNeg, Nat.reduceLT, Int.reduceToNat, Nat.reduceLeDiff, Nat.sub_zero])
  refine join_by fun J4 hJ4 => ?_
  (try simp (maxSteps := 1000000) (dsimp := false) (disch := (first | omega | (simp only [okR]; done) | (simp only [sizeR] <;> omega) | fail)) only [↓preR, postR, ↓w_stop, Nat.reduceEqDiff, Nat.reduceAdd, Nat.reduceSub, Nat.reduceMul, Int.reduceNeg, Nat.reduceLT, Int.reduceToNat, Nat.reduceLeDiff, Nat.sub_zero, d0])
  refine join_by fun J5 hJ5 => ?_
  by_cases hk1 : x.kind = 1
  · have nx : J4 [.string (bs (acc ++ x.text))] σ := by
      refine hJ4 _ _ ?_
      (try simp (maxSteps := 1000000) (dsimp := false) (disch := (first | omega | (simp only [okR]; done) | (simp only [sizeR] <;> omega) | fail)) only [↓preR, postR, ↓w_stop, Nat.reduceEqDiff, Nat.reduceAdd, Nat.reduceSub, Nat.reduceMul, Int.reduceNeg, Nat.reduceLT, Int.reduceToNat, Nat.reduceLeDiff, Nat.sub_zero])
      refine hag _ _ _ ⟨j + 1, acc ++ x.text, rfl, rfl, hlt, by rw [List.length_append]; omega, ?_, rfl⟩ (by omega)
      rw [he]
      simp only [litO, hk1, if_true]
      rw [Option.map_map]
      congr 1
      funext y
      simp
    (try simp (maxSteps := 1000000) (dsimp := false) (disch := (first | omega | (simp only [okR]; done) | (simp only [sizeR] <;> omega) | fail)) only [↓preR, postR, ↓w_stop, Nat.reduceEqDiff, Nat.reduceAdd, Nat.reduceSub, Nat.reduceMul, Int.reduceNeg, Nat.reduceLT, Int.reduceToNat, Nat.reduceLeDiff, Nat.sub_zero, d0, hk1])
    refine hJ5 _ _ ?_
    (try simp (maxSteps := 1000000) (dsimp := false) (disch := (first | omega | (simp only [okR]; done) | (simp only [sizeR] <;> omega) | fail)) only [↓preR, postR, ↓w_stop, Nat.reduceEqDiff, Nat.reduceAdd, Nat.reduceSub, Nat.reduceMul, Int.reduceNeg, Nat.reduceLT, Int.reduceToNat, Nat.reduceLeDiff, Nat.sub_zero, d1])
    exact nx
  · have hk2 : k (.tuple #[.string (bs []), .bool false]) σ := by
      rw [he] at hk
      simpa [litO, hk1] using hk
    (try simp (maxSteps := 1000000) (dsimp := false) (disch := (first | omega | (simp only [okR]; done) | (simp only [sizeR] <;> omega) | fail)) only [↓preR, postR, ↓w_stop, Nat.reduceEqDiff, Nat.reduceAdd, Nat.reduceSub, Nat.reduceMul, Int.reduceNeg, Nat.reduceLT, Int.reduceToNat, Nat.reduceLeDiff, Nat.sub_zero, d0, hk1])
    exact hk2
theorem literal_c (hsz : szW w ≤ 8000) (hv : RepL X v w) (h : Hs σ X R) (hk : ∀ σ', Hs σ' X R → k (litA w) σ') : kCall Tryz.prog 16 [v] σ k := by
  obtain ⟨a, b, o, cap, rfl, hc, hm, hat⟩ := pts_at hv
  unfold maxLen at hm
  refine f16 ?_
  have h1 := Bd.new h
  (try simp (maxSteps := 1000000) (dsimp := false) (disch := (first | omega | (simp only [okR]; done) | (simp only [sizeR] <;> omega) | fail)) only [↓preR, postR, ↓w_stop, Nat.reduceEqDiff, Nat.reduceAdd, Nat.reduceSub, Nat.reduceMul, Int.reduceNeg, Nat.reduceLT, Int.reduceToNat, Nat.reduceLeDiff, Nat.sub_zero, F16])
  generalize AS.new σ _ = s1 at h1 ⊢
  generalize σ.n = p at h1 ⊢
  refine join_by fun J1 hJ1 => ?_
  unfold litA at hk
  (try simp (maxSteps := 1000000) (dsimp := false) (disch := (first | omega | (simp only [okR]; done) | (simp only [sizeR] <;> omega) | fail)) only [↓preR, postR, ↓w_stop, Nat.reduceEqDiff, Nat.reduceAdd, Nat.reduceSub, Nat.reduceMul, Int.reduceNeg, Nat.reduceLT, Int.reduceToNat, Nat.reduceLeDiff, Nat.sub_zero])
  refine loop_inv (fun nn xs s2 => ∃ (j : Nat) (acc : Str), xs = [.int .i64 j] ∧ Hs s2 X (Bd p acc :: R) ∧ j ≤ w.length ∧ acc.length + szW (w.drop j) ≤ szW w ∧ litO w = (litO (w.drop j)).map (acc ++ ·) ∧ nn = w.length - j) _ ⟨0, [], rfl, h1, Nat.zero_le _, by simp, by simp, rfl⟩ ?_
  rintro _ _ s2 again ⟨j, acc, rfl, h2, hj, hb, he, rfl⟩ hag
  (try simp (maxSteps := 1000000) (dsimp := false) (disch := (first | omega | (simp only [okR]; done) | (simp only [sizeR] <;> omega) | fail)) only [↓preR, postR, ↓w_stop, Nat.reduceEqDiff, Nat.reduceAdd, Nat.reduceSub, Nat.reduceMul, Int.reduceNeg, Nat.reduceLT, Int.reduceToNat, Nat.reduceLeDiff, Nat.sub_zero])
  refine join_by fun J3 hJ3 => ?_
  by_cases hlt : j < w.length
  rotate_left
  · rw [List.drop_of_length_le (by omega)] at he
    rw [he] at hk
    have hk2 : ∀ σ', Hs σ' X R → k (.tuple #[.string (bs acc), .bool true]) σ' := fun s h => by simpa [litO] using hk s h
    (try simp (maxSteps := 1000000) (dsimp := false) (disch := (first | omega | (simp only [okR]; done) | (simp only [sizeR] <;> omega) | fail)) only [↓preR, postR, ↓w_stop, Nat.reduceEqDiff, Nat.reduceAdd, Nat.reduceSub, Nat.reduceMul, Int.reduceNeg, Nat.reduceLT, Int.reduceToNat, Nat.reduceLeDiff, Nat.sub_zero])
    refine hJ1 _ _ ?_
    (try simp (maxSteps := 1000000) (dsimp := false) (disch := (first | omega | (simp only [okR]; done) | (simp only [sizeR] <;> omega) | fail)) only [↓preR, postR, ↓w_stop, Nat.reduceEqDiff, Nat.reduceAdd, Nat.reduceSub, Nat.reduceMul, Int.reduceNeg, Nat.reduceLT, Int.reduceToNat, Nat.reduceLeDiff, Nat.sub_zero])
    refine bstr_c h2 (by omega) fun s3 h3 => ?_
    (try simp (maxSteps := 1000000) (dsimp := false) (disch := (first | omega | (simp only [okR]; done) | (simp only [sizeR] <;> omega) | fail)) only [↓preR, postR, ↓w_stop, Nat.reduceEqDiff, Nat.reduceAdd, Nat.reduceSub, Nat.reduceMul, Int.reduceNeg, Nat.reduceLT, Int.reduceToNat, Nat.reduceLeDiff, Nat.sub_zero])
    exact hk2 _ h3
  clear hJ1
  rw [sz_drop w j hlt] at hb
  rw [List.drop_eq_getElem_cons hlt] at he
  obtain ⟨rfl, u, g0, g1, g2, g3, g4, c0, c1, c2, c3, c4, c5⟩ := hat j hlt
  generalize w[j] = x at *
  rw [szPt_def] at hb
  obtain ⟨va, vn, vc, rfl⟩ := g0.val
  have d0 := h2.ldx c0
  have d1 := h2.ldx c1
  have d2 := h2.ldx c2
  have d3 := h2.ldx c3
  have d4 := h2.ldx c4
  have d5 := h2.ldx c5
  (try simp (maxSteps := 1000000) (dsimp := false) (disch := (first | omega | (simp only [okR]; done) | (simp only [sizeR] <;> omega) | fail)) only [↓preR, postR, ↓w_stop, Nat.reduceEqDiff, Nat.reduceAdd, Nat.reduceSub, Nat.reduceMul, Int.reduceNeg, Nat.reduceLT, Int.reduceToNat, Nat.reduceLeDiff, Nat.sub_zero])
  refine hJ3 _ _ ?_
  clear hJ3
  (try simp (maxSteps := 1000000) (dsimp := false) (disch := (first | omega | (simp only [okR]; done) | (simp only [sizeR] <;> omega) | fail)) only [↓preR, postR, ↓w_stop, Nat.reduceEqDiff, Nat.reduceAdd, Nat.reduceSub, Nat.reduceMul, Int.reduceNeg, Nat.reduceLT, Int.reduceToNat, Nat.reduceLeDiff, Nat.sub_zero])
  refine join_by fun J4 hJ4 => ?_
  have h3 := h2.new (cs := [.int .i64 0, .string (bs []), .bool false, .int .i64 0, .bool false, .slice none 0 0])
  have h4 := h3.put (cs' := ptC x (.slice va vn vc))
  (try simp (maxSteps := 1000000) (dsimp := false) (disch := (first | omega | (simp only [okR]; done) | (simp only [sizeR] <;> omega) | fail)) only [↓preR, postR, ↓w_stop, Nat.reduceEqDiff, Nat.reduceAdd, Nat.reduceSub, Nat.reduceMul, Int.reduceNeg, Nat.reduceLT, Int.reduceToNat, Nat.reduceLeDiff, Nat.sub_zero, d0, d1, d2, d3, d4, d5, h3.obj])
  generalize AS.put _ _ _ = s4 at h4 ⊢
  generalize s2.n = q4 at h4 ⊢
  refine join_by fun J5 hJ5 => ?_
  by_cases hk1 : x.kind = 1
  · (try simp (maxSteps := 1000000) (dsimp := false) (disch := (first | omega | (simp only [okR]; done) | (simp only [sizeR] <;> omega) | fail)) only [↓preR, postR, ↓w_stop, Nat.reduceEqDiff, Nat.reduceAdd, Nat.reduceSub, Nat.reduceMul, Int.reduceNeg, Nat.reduceLT, Int.reduceToNat, Nat.reduceLeDiff, Nat.sub_zero, h4.obj, hk1])
    refine hJ5 _ _ ?_
    (try simp (maxSteps := 1000000) (dsimp := false) (disch := (first | omega | (simp only [okR]; done) | (simp only [sizeR] <;> omega) | fail)) only [↓preR, postR, ↓w_stop, Nat.reduceEqDiff, Nat.reduceAdd, Nat.reduceSub, Nat.reduceMul, Int.reduceNeg, Nat.reduceLT, Int.reduceToNat, Nat.reduceLeDiff, Nat.sub_zero, h4.obj])
    refine wrs_c h4.drop (by omega) fun w5 s5 h6 => ?_
    (try simp (maxSteps := 1000000) (dsimp := false) (disch := (first | omega | (simp only [okR]; done) | (simp only [sizeR] <;> omega) | fail)) only [↓preR, postR, ↓w_stop, Nat.reduceEqDiff, Nat.reduceAdd, Nat.reduceSub, Nat.reduceMul, Int.reduceNeg, Nat.reduceLT, Int.reduceToNat, Nat.reduceLeDiff, Nat.sub_zero])
    refine hJ4 _ _ ?_
    (try simp (maxSteps := 1000000) (dsimp := false) (disch := (first | omega | (simp only [okR]; done) | (simp only [sizeR] <;> omega) | fail)) only [↓preR, postR, ↓w_stop, Nat.reduceEqDiff, Nat.reduceAdd, Nat.reduceSub, Nat.reduceMul, Int.reduceNeg, Nat.reduceLT, Int.reduceToNat, Nat.reduceLeDiff, Nat.sub_zero])
    refine hag _ _ _ ⟨j + 1, acc ++ x.text, rfl, h6, hlt, by rw [List.length_append]; omega, ?_, rfl⟩ (by omega)
    rw [he]
    simp only [litO, hk1, if_true]
    rw [Option.map_map]
    congr 1
    funext y
    simp
  · have hk2 : ∀ σ', Hs σ' X R → k (.tuple #[.string (bs []), .bool false]) σ' := fun s h => by
      have := hk s h
      rw [he] at this
      simpa [litO, hk1] using this
    (try simp (maxSteps := 1000000) (dsimp := false) (disch := (first | omega | (simp only [okR]; done) | (simp only [sizeR] <;> omega) | fail)) only [↓preR, postR, ↓w_stop, Nat.reduceEqDiff, Nat.reduceAdd, Nat.reduceSub, Nat.reduceMul, Int.reduceNeg, Nat.reduceLT, Int.reduceToNat, Nat.reduceLeDiff, Nat.sub_zero, h4.obj, hk1])
    exact hk2 _ h4.drop.drop
theorem prints_walk {m : Int} (hM : X 0 0 = some (.int .i64 m)) (hsz : szW w < 4611686018427387904) (hv : RepL X v w) (h : Hs σ X R) (hk : ∀ X' σ', Ce.le X X' → Hs σ' X' R → k (.bool true) σ') : kCall Tryz.prog 4 [v] σ k := by
  refine f4 ?_
  (try simp (maxSteps := 1000000) (dsimp := false) (disch := (first | omega | (simp only [okR]; done) | (simp only [sizeR] <;> omega) | fail)) only [↓preR, postR, ↓w_stop, Nat.reduceEqDiff, Nat.reduceAdd, Nat.reduceSub, Nat.reduceMul, Int.reduceNeg, Nat.reduceLT, Int.reduceToNat, Nat.reduceLeDiff, Nat.sub_zero, F4])
  refine join_by fun J1 hJ1 => ?_
  (try simp (maxSteps := 1000000) (dsimp := false) (disch := (first | omega | (simp only [okR]; done) | (simp only [sizeR] <;> omega) | fail)) only [↓preR, postR, ↓w_stop, Nat.reduceEqDiff, Nat.reduceAdd, Nat.reduceSub, Nat.reduceMul, Int.reduceNeg, Nat.reduceLT, Int.reduceToNat, Nat.reduceLeDiff, Nat.sub_zero])
  refine size_c _ (Nat.lt_succ_self _) hv h fun n s1 hn h1 => ?_
  obtain ⟨n1, n2⟩ := hn
  obtain ⟨n3, n4, n5⟩ := n2 hsz
  by_cases hb : 600 < n
  · (try simp (maxSteps := 1000000) (dsimp := false) (disch := (first | omega | (simp only [okR]; done) | (simp only [sizeR] <;> omega) | fail)) only [↓preR, postR, ↓w_stop, Nat.reduceEqDiff, Nat.reduceAdd, Nat.reduceSub, Nat.reduceMul, Int.reduceNeg, Nat.reduceLT, Int.reduceToNat, Nat.reduceLeDiff, Nat.sub_zero, hb])
    refine awake_c h1 fun X' s2 le h2 => ?_
    (try simp (maxSteps := 1000000) (dsimp := false) (disch := (first | omega | (simp only [okR]; done) | (simp only [sizeR] <;> omega) | fail)) only [↓preR, postR, ↓w_stop, Nat.reduceEqDiff, Nat.reduceAdd, Nat.reduceSub, Nat.reduceMul, Int.reduceNeg, Nat.reduceLT, Int.reduceToNat, Nat.reduceLeDiff, Nat.sub_zero])
    exact hk _ _ le h2
  · have hs : szW w ≤ 8000 := by have := n5 (by omega); omega
    (try simp (maxSteps := 1000000) (dsimp := false) (disch := (first | omega | (simp only [okR]; done) | (simp only [sizeR] <;> omega) | fail)) only [↓preR, postR, ↓w_stop, Nat.reduceEqDiff, Nat.reduceAdd, Nat.reduceSub, Nat.reduceMul, Int.reduceNeg, Nat.reduceLT, Int.reduceToNat, Nat.reduceLeDiff, Nat.sub_zero, hb])
    refine hJ1 _ _ ?_
    clear hJ1
    (try simp (maxSteps := 1000000) (dsimp := false) (disch := (first | omega | (simp only [okR]; done) | (simp only [sizeR] <;> omega) | fail)) only [↓preR, postR, ↓w_stop, Nat.reduceEqDiff, Nat.reduceAdd, Nat.reduceSub, Nat.reduceMul, Int.reduceNeg, Nat.reduceLT, Int.reduceToNat, Nat.reduceLeDiff, Nat.sub_zero])
    refine print_c hs (fun _ => quote_c hM) hv h1 fun X2 s2 le2 h2 => ?_
    (try simp (maxSteps := 1000000) (dsimp := false) (disch := (first | omega | (simp only [okR]; done) | (simp only [sizeR] <;> omega) | fail)) only [↓preR, postR, ↓w_stop, Nat.reduceEqDiff, Nat.reduceAdd, Nat.reduceSub, Nat.reduceMul, Int.reduceNeg, Nat.reduceLT, Int.reduceToNat, Nat.reduceLeDiff, Nat.sub_zero])
    refine rprint_c hs (hv.mono le2) h2 fun X3 s3 le3 h3 => ?_
    have le03 := Ce.le_trans le2 le3
    (try simp (maxSteps := 1000000) (dsimp := false) (disch := (first | omega | (simp only [okR]; done) | (simp only [sizeR] <;> omega) | fail)) only [↓preR, postR, ↓w_stop, Nat.reduceEqDiff, Nat.reduceAdd, Nat.reduceSub, Nat.reduceMul, Int.reduceNeg, Nat.reduceLT, Int.reduceToNat, Nat.reduceLeDiff, Nat.sub_zero])
    refine printHere_c hs (fun _ => quote_c (le03 _ _ _ hM)) (hv.mono le03) h3 fun X4 s4 le4 h4 => ?_
    (try simp (maxSteps := 1000000) (dsimp := false) (disch := (first | omega | (simp only [okR]; done) | (simp only [sizeR] <;> omega) | fail)) only [↓preR, postR, ↓w_stop, Nat.reduceEqDiff, Nat.reduceAdd, Nat.reduceSub, Nat.reduceMul, Int.reduceNeg, Nat.reduceLT, Int.reduceToNat, Nat.reduceLeDiff, Nat.sub_zero])
    refine rprintHere_c hs ((hv.mono le03).mono le4) h4 fun X5 s5 le5 h5 => ?_
    have le05 := Ce.le_trans (Ce.le_trans le03 le4) le5
    (try simp (maxSteps := 1000000) (dsimp := false) (disch := (first | omega | (simp only [okR]; done) | (simp only [sizeR] <;> omega) | fail)) only [↓preR, postR, ↓w_stop, Nat.reduceEqDiff, Nat.reduceAdd, Nat.reduceSub, Nat.reduceMul, Int.reduceNeg, Nat.reduceLT, Int.reduceToNat, Nat.reduceLeDiff, Nat.sub_zero])
    refine literal_c hs (hv.mono le05) h5 fun s6 h6 => ?_
    cases hl : litO w with
    | some t =>
      have e : litA w = .tuple #[.string (bs t), .bool true] := by unfold litA; rw [hl]
      rw [e]
      (try simp (maxSteps := 1000000) (dsimp := false) (disch := (first | omega | (simp only [okR]; done) | (simp only [sizeR] <;> omega) | fail)) only [↓preR, postR, ↓w_stop, Nat.reduceEqDiff, Nat.reduceAdd, Nat.reduceSub, Nat.reduceMul, Int.reduceNeg, Nat.reduceLT, Int.reduceToNat, Nat.reduceLeDiff, Nat.sub_zero])
      refine rliteral_c hs (hv.mono le05) h6 ?_
      rw [e]
      (try simp (maxSteps := 1000000) (dsimp := false) (disch := (first | omega | (simp only [okR]; done) | (simp only [sizeR] <;> omega) | fail)) only [↓preR, postR, ↓w_stop, Nat.reduceEqDiff, Nat.reduceAdd, Nat.reduceSub, Nat.reduceMul, Int.reduceNeg, Nat.reduceLT, Int.reduceToNat, Nat.reduceLeDiff, Nat.sub_zero])
      refine awake_c h6 fun X7 s7 le7 h7 => ?_
      (try simp (maxSteps := 1000000) (dsimp := false) (disch := (first | omega | (simp only [okR]; done) | (simp only [sizeR] <;> omega) | fail)) only [↓preR, postR, ↓w_stop, Nat.reduceEqDiff, Nat.reduceAdd, Nat.reduceSub, Nat.reduceMul, Int.reduceNeg, Nat.reduceLT, Int.reduceToNat, Nat.reduceLeDiff, Nat.sub_zero])
      exact hk _ _ (Ce.le_trans le05 le7) h7
    | none =>
      have e : litA w = .tuple #[.string (bs []), .bool false] := by unfold litA; rw [hl]
      rw [e]
      (try simp (maxSteps := 1000000) (dsimp := false) (disch := (first | omega | (simp only [okR]; done) | (simp only [sizeR] <;> omega) | fail)) only [↓preR, postR, ↓w_stop, Nat.reduceEqDiff, Nat.reduceAdd, Nat.reduceSub, Nat.reduceMul, Int.reduceNeg, Nat.reduceLT, Int.reduceToNat, Nat.reduceLeDiff, Nat.sub_zero])
      refine rliteral_c hs (hv.mono le05) h6 ?_
      rw [e]
      (try simp (maxSteps := 1000000) (dsimp := false) (disch := (first | omega | (simp only [okR]; done) | (simp only [sizeR] <;> omega) | fail)) only [↓preR, postR, ↓w_stop, Nat.reduceEqDiff, Nat.reduceAdd, Nat.reduceSub, Nat.reduceMul, Int.reduceNeg, Nat.reduceLT, Int.reduceToNat, Nat.reduceLeDiff, Nat.sub_zero])
      refine awake_c h6 fun X7 s7 le7 h7 => ?_
      (try simp (maxSteps := 1000000) (dsimp := false) (disch := (first | omega | (simp only [okR]; done) | (simp only [sizeR] <;> omega) | fail)) only [↓preR, postR, ↓w_stop, Nat.reduceEqDiff, Nat.reduceAdd, Nat.reduceSub, Nat.reduceMul, Int.reduceNeg, Nat.reduceLT, Int.reduceToNat, Nat.reduceLeDiff, Nat.sub_zero])
      exact hk _ _ (Ce.le_trans le05 le7) h7
end
end Go.Proofs.YtmgdkoidgoihfaaGreatDoor

/- A word that is handed in, and its bulk; the law of WordPrints begins. Conditions: as each theorem says. -/
namespace Go.Proofs.YtmgdkoidgoihfaaGreatDoor
open E Go.Lib
open Go.RowKit
set_option linter.unusedVariables false
set_option linter.unusedSimpArgs false
set_option maxHeartbeats 1000000
set_option maxRecDepth 20000

section
variable {H : Type} {enc : TypeId × Value → H} {w : World} {base : Nat} {spare : Nat → Bool} {held : Bool}
theorem sz_bulk : ∀ (l : List Pt) (ds : List (DataW H)), l.length = ds.length → (∀ i (h1 : i < l.length) (h2 : i < ds.length), szPt l[i] ≤ Rows.uptoBulk ds[i]) → szW l ≤ Rows.uptoBulkAll ds
  | [], ds, _, _ => by unfold szW; exact Nat.zero_le _
  | p :: l, [], h, _ => by simp at h
  | p :: l, d :: ds, h, hi => by
    have h1 := sz_bulk l ds (by simpa using h) (fun i h1 h2 => hi (i + 1) (by simpa using h1) (by simpa using h2))
    have h2 := hi 0 (by simp) (by simp)
    simp only [List.getElem_cons_zero] at h2
    unfold szW
    show _ ≤ Rows.uptoBulk d + Rows.uptoBulkAll ds
    omega
theorem word_of2 {n : Nat} {cs : List Value} {x : DataW H × List MemPlace} (ih : ∀ cs x, DataW.trod enc Tryz.prog w base spare held n 37 cs = some x → ∃ p : Pt, RpPt (E.start w).c p cs ∧ szPt p ≤ Rows.uptoBulk x.1)
    (h : DataW.trod enc Tryz.prog w base spare held (n + 1) 24 cs = some x) : ∃ (v : Value) (l : List Pt), cs = [v] ∧ RepL (E.start w).c v l ∧ szW l ≤ Rows.uptoBulk x.1 := by
  rcases DataW.trod_slice Tryz.underlying24 h with ⟨hcs, _⟩ | ⟨a, len, cap, elems, rest, m, hn, hcs, hx, _, hl, hc, hel, hall, _⟩
  · exact ⟨_, [], hcs, ⟨none, 0, rfl, Nat.le_refl _, Nat.zero_le _, .inl rfl⟩, by unfold szW; exact Nat.zero_le _⟩
  · injection hn with hn
    subst hn
    have hsz : Tryz.prog.cellsOf 37 = 6 := by kernel_rfl
    rw [hsz] at hall
    have hget : ∀ i, (hi : i < len) → ∃ c, w.cells? base (a.add (i * 6)) 6 = some c ∧ DataW.trod enc Tryz.prog w base spare held n 37 c = some (elems[i]'(by omega)) := by
      intro i hi
      have h1 := hall i hi
      have h2 : elems[i]? = some (elems[i]'(by omega)) := by simp
      rw [h2, Option.bind_eq_some_iff] at h1
      obtain ⟨c, hc1, hc2⟩ := h1
      exact ⟨c, hc1, hc2⟩
    have hg : ∀ i, i < len → w.cells? base (a.add (i * 6)) 6 = some ((w.cells? base (a.add (i * 6)) 6).getD []) := by
      intro i hi
      obtain ⟨c, h1, _⟩ := hget i hi
      rw [h1]; rfl
    obtain ⟨h1, h2⟩ := arr_of_cells hg (by decide)
    obtain ⟨l, hll, hp⟩ := list_of (n := len) (p := fun i p => RpPt (E.start w).c p ((w.cells? base (a.add (i * 6)) 6).getD []) ∧ ∀ (hi : i < elems.length), szPt p ≤ Rows.uptoBulk elems[i].1) (fun i hi => by
      obtain ⟨c, h3, h4⟩ := hget i hi
      obtain ⟨p, hp, hb⟩ := ih c _ h4
      exact ⟨p, by rw [h3]; exact hp, fun _ => hb⟩)
    refine ⟨_, l, hcs, ⟨some a, cap, by rw [hll], by omega, hc, ?_⟩, ?_⟩
    · rcases h1 with h1 | ⟨b, o, h1, h3⟩
      · exact .inl (List.eq_nil_of_length_eq_zero (by omega))
      · exact .inr ⟨b, o, h1, fun i hi => ⟨_, (hp i hi).1, fun j v hv => h3 i (by omega) j v hv⟩⟩
    · have hb := sz_bulk l (elems.map (·.1)) (by rw [List.length_map]; omega) (fun i h1 h2 => by
        rw [List.getElem_map]
        exact (hp i h1).2 (by rw [List.length_map] at h2; exact h2))
      rw [hx]
      simp only [Rows.uptoBulk]
      omega
theorem part_of2 : ∀ (fuel : Nat) (cs : List Value) (x : DataW H × List MemPlace), DataW.trod enc Tryz.prog w base spare held fuel 37 cs = some x → ∃ p : Pt, RpPt (E.start w).c p cs ∧ szPt p ≤ Rows.uptoBulk x.1 := by
  intro fuel
  induction fuel using Nat.strongRecOn with
  | ind fuel ih =>
    intro cs x h
    obtain ⟨xs, n, rfl, hxx, hl, hxl, hall⟩ := DataW.trod_struct Tryz.underlying37 h
    have hsz : Tryz.prog.cellsOf 37 = 6 := by kernel_rfl
    rw [hsz] at hl
    match cs, hl with
    | [c0, c1, c2, c3, c4, c5], _ =>
    have hx6 : xs.length = 6 := hxl
    match xs, hx6 with
    | [y0, y1, y2, y3, y4, y5], _ =>
    have h0 := hall 0 _ rfl
    have h1 := hall 1 _ rfl
    have h2 := hall 2 _ rfl
    have h3 := hall 3 _ rfl
    have h4 := hall 4 _ rfl
    have h5 := hall 5 _ rfl
    have z1 : Tryz.prog.cellsOf 3 = 1 := by kernel_rfl
    have z2 : Tryz.prog.cellsOf 9 = 1 := by kernel_rfl
    have z3 : Tryz.prog.cellsOf 4 = 1 := by kernel_rfl
    have z4 : Tryz.prog.cellsOf 24 = 1 := by kernel_rfl
    change DataW.trod enc Tryz.prog w base spare held n 3 (List.take (Tryz.prog.cellsOf 3) (List.drop 0 [c0, c1, c2, c3, c4, c5])) = some y0 at h0
    change DataW.trod enc Tryz.prog w base spare held n 9 (List.take (Tryz.prog.cellsOf 9) (List.drop 1 [c0, c1, c2, c3, c4, c5])) = some y1 at h1
    change DataW.trod enc Tryz.prog w base spare held n 4 (List.take (Tryz.prog.cellsOf 4) (List.drop 2 [c0, c1, c2, c3, c4, c5])) = some y2 at h2
    change DataW.trod enc Tryz.prog w base spare held n 3 (List.take (Tryz.prog.cellsOf 3) (List.drop 3 [c0, c1, c2, c3, c4, c5])) = some y3 at h3
    change DataW.trod enc Tryz.prog w base spare held n 4 (List.take (Tryz.prog.cellsOf 4) (List.drop 4 [c0, c1, c2, c3, c4, c5])) = some y4 at h4
    change DataW.trod enc Tryz.prog w base spare held n 24 (List.take (Tryz.prog.cellsOf 24) (List.drop 5 [c0, c1, c2, c3, c4, c5])) = some y5 at h5
    simp only [z1, z2, z3, z4, List.drop_zero, List.drop_succ_cons, List.take_succ_cons, List.take_zero] at h0 h1 h2 h3 h4 h5
    obtain ⟨m0, g0, _, w0⟩ := DataW.trod_int Tryz.underlying3 h0
    obtain ⟨s1, g1, q1, w1⟩ := DataW.trod_string Tryz.underlying9 h1
    obtain ⟨b2, g2, _⟩ := DataW.trod_bool Tryz.underlying4 h2
    obtain ⟨m3, g3, _, w3⟩ := DataW.trod_int Tryz.underlying3 h3
    obtain ⟨b4, g4, _⟩ := DataW.trod_bool Tryz.underlying4 h4
    have hw : ∃ (v : Value) (l : List Pt), [c5] = [v] ∧ RepL (E.start w).c v l ∧ szW l ≤ Rows.uptoBulk y5.1 := by
      cases n with
      | zero => unfold DataW.trod at h5; cases h5
      | succ n => exact word_of2 (fun cs x hc => ih n (by omega) cs x hc) h5
    obtain ⟨v, l, g5, hl5, hb5⟩ := hw
    injection g0 with g0 _
    injection g1 with g1 _
    injection g2 with g2 _
    injection g3 with g3 _
    injection g4 with g4 _
    injection g5 with g5 _
    subst g0 g1 g2 g3 g4 g5
    obtain ⟨t, rfl⟩ : ∃ t : Str, s1 = bs t := ⟨_, bs_of s1⟩
    rw [bs_size] at w1
    refine ⟨.mk m0 t b2 m3 b4 l, RpPt.made (c := (E.start w).c) (p := .mk m0 t b2 m3 b4 l) (v := c5) w1 (wf_i64 w0) (wf_i64 w3) hl5, ?_⟩
    rw [hxx]
    have e1 : Rows.uptoBulk y1.1 = t.length + 1 := by
      rw [q1]
      simp [Rows.uptoBulk, bs]
    simp only [List.map_cons, List.map_nil, Rows.uptoBulk, Rows.uptoBulkAll]
    show 1 + t.length + szW l ≤ _
    omega
theorem arg_wordB {r : Reach} {b0 : Nat} {v : Value} {d : DataW H} {ps : List MemPlace} (hval : Value.okWide Tryz.prog w r b0 24 v) (h : DataW.Trod enc Tryz.prog w base spare held 24 v d ps) :
    ∃ l : List Pt, RepL (E.start w).c v l ∧ szW l ≤ Rows.uptoBulk d := by
  obtain ⟨a, b, c, rfl⟩ := Go.WideShapes.okWide_slice Tryz.underlying24 hval
  obtain ⟨fuel, hf⟩ := h
  have hv : (Value.slice a b c).cells.toList = [Value.slice a b c] := rfl
  rw [hv] at hf
  cases fuel with
  | zero => unfold DataW.trod at hf; cases hf
  | succ n =>
    obtain ⟨u, l, h1, h2, h3⟩ := word_of2 (fun cs x hc => part_of2 n cs x hc) hf
    injection h1 with h1 _
    subst h1
    exact ⟨l, h2, h3⟩
theorem prints_law {v0 : Value} {d : DataW H} {gs : List (DataW H)} (hO : w.ShapedOpen Tryz.prog) (hk : Rows.uptoSmall H ([d] ++ gs) = true) (A0 : ∃ l : List Pt, RepL (E.start w).c v0 l ∧ szW l ≤ Rows.uptoBulk d) :
    callP Tryz.prog 4 [v0] w fun v w' => v = .bool true ∧ KeepP (fun _ => False) w w' := by
  obtain ⟨l, hl, hb⟩ := A0
  have h1 : Rows.uptoBulkAll ([d] ++ gs) ≤ 1048576 := of_decide_eq_true hk
  have h2 : Rows.uptoBulkAll ([d] ++ gs) = Rows.uptoBulk d + Rows.uptoBulkAll gs := rfl
  obtain ⟨m, hm⟩ := Tryz.laysM155.s1_3 w hO
  exact law_ok (prints_walk (m := m) (R := []) hm (by omega) hl (Hs.start _) fun X' σ' _ _ => rfl)
end
end Go.Proofs.YtmgdkoidgoihfaaGreatDoor
