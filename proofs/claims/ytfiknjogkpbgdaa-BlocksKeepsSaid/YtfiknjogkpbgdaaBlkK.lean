/- What was written is read: the walk. Conditions: as each theorem says. -/
import Derived.Test.YtfiknjogkpbgdaaBlkA
import Derived.Test.YtfiknjogkpbgdaaFD
namespace Go.Proofs.Ytfiknjogkpbgdaa
open E
set_option linter.unusedVariables false
set_option linter.unusedSimpArgs false
set_option maxHeartbeats 4000000
set_option maxRecDepth 20000

def wr3 (j : Nat) : List UInt8 := [UInt8.ofNat (j + 1), 1, 2]
def wr (j : Nat) : List UInt8 := wr3 j ++ List.replicate 61 0
def stp (n k : Nat) : List Bk := (List.range n).map fun j => if j < k then (true, wr j) else (false, zero64)
theorem stp_len (n k : Nat) : (stp n k).length = n := by simp [stp]
theorem stp_lt (n k j : Nat) (hj : j < (stp n k).length) (h : j < k) : (stp n k)[j] = (true, wr j) := by simp [stp, h]
theorem stp_ge (n k j : Nat) (hj : j < (stp n k).length) (h : k ≤ j) : (stp n k)[j] = (false, zero64) := by simp [stp, show ¬ j < k by omega]
theorem stp_zero (n : Nat) : stp n 0 = fresh n := by
  apply List.ext_getElem
  · simp [stp, fresh]
  · intro i h1 h2; simp [stp, fresh]
theorem stp_take (n k : Nat) (h : k < n) : takeM (stp n k) = ((k : Int) + 1, 0, (stp n k).set k (true, zero64)) := by
  have : (stp n k).findIdx? (fun b => !b.1) = some k := by
    rw [List.findIdx?_eq_some_iff_getElem]
    refine ⟨by rw [stp_len]; exact h, ?_, fun j hj => ?_⟩
    · rw [stp_ge _ _ _ _ (Nat.le_refl _)]; rfl
    · rw [stp_lt _ _ _ _ hj]; simp
  simp only [takeM, this]
theorem wr_len (j : Nat) : (wr j).length = 64 := by simp [wr, wr3]
theorem lays_wr (j : Nat) : lays zero64 0 (wr3 j) = wr j := by
  simp [lays, wr, wr3, zero64]
theorem stp_next (n k : Nat) (h : k < n) : ((stp n k).set k (true, zero64)).set k (true, wr k) = stp n (k + 1) := by
  apply List.ext_getElem
  · simp [stp]
  · intro i h1 h2
    simp only [List.length_set] at h1
    by_cases hik : k = i
    · subst hik
      rw [List.getElem_set_self, stp_lt _ _ _ _ (by omega)]
    · rw [List.getElem_set_ne hik, List.getElem_set_ne hik]
      by_cases hlt : i < k
      · rw [stp_lt _ _ _ _ hlt, stp_lt _ _ _ _ (by omega)]
      · rw [stp_ge _ _ _ _ (by omega), stp_ge _ _ _ _ (by omega)]
theorem stp_free (n k : Nat) (h : k ≤ n) : free (stp n k) + k = n := by
  induction k with
  | zero => rw [stp_zero, free_fresh]; omega
  | succ k ih =>
    have h1 := ih (by omega)
    have hk : k < (stp n k).length := by rw [stp_len]; omega
    have e := stp_next n k (by omega)
    rw [List.set_set] at e
    have h2 := free_set (stp n k) k hk (true, wr k)
    rw [e, stp_ge _ _ _ _ (Nat.le_refl _)] at h2
    simp at h2
    omega
set_option maxRecDepth 10000 in
theorem z61 : (List.replicate 61 [Value.int .u8 0]).flatten = (List.replicate 61 (0 : UInt8)).map fun b => Value.int .u8 b.toNat := rfl
theorem isT_at (st : List Bk) (i : Nat) (hi : i < st.length) : isT st (i + 1) = st[i].1 := by
  have e : ((i : Int) + 1 - 1).toNat = i := by omega
  have e1 : (1 : Int) ≤ i + 1 := by omega
  have e2 : (i : Int) + 1 ≤ st.length := by omega
  unfold isT
  rw [e, List.getElem?_eq_getElem hi]
  simp [e1, e2]
theorem bytesM_at (st : List Bk) (i : Nat) (hi : i < st.length) : bytesM st (i + 1) = st[i].2 := by
  have e : ((i : Int) + 1 - 1).toNat = i := by omega
  unfold bytesM
  rw [e, List.getElem?_eq_getElem hi]
  rfl
theorem write_at (st : List Bk) (i a : Nat) (t : List UInt8) (hi : i < st.length) (ht : st[i].1 = true) (h : a + t.length ≤ 64) : writeM st (i + 1) a t = (0, st.set i (true, lays st[i].2 a t)) := by
  have e : ((i : Int) + 1 - 1).toNat = i := by omega
  have : rdOk a t.length = true := by simp [rdOk]; omega
  simp only [writeM, isT_at st i hi, ht, if_true, this, bytesM_at st i hi, e, Int.toNat_natCast]
theorem read_at (st : List Bk) (i a n : Nat) (hi : i < st.length) (ht : st[i].1 = true) (h : a + n ≤ 64) : readM st (i + 1) a n = ((st[i].2.drop a).take n, 0) := by
  have : rdOk a n = true := by simp [rdOk]; omega
  simp only [readM, isT_at st i hi, ht, if_true, this, bytesM_at st i hi, Int.toNat_natCast]

section
variable {σ : AS}
theorem keeps_out (n many ask B At N : Int) (t : List UInt8) (ht : t.length ≤ maxLen) (wB : inI64 B) (wA : inI64 At)
    (h : n < 1 ∨ 100 < n ∨ many < 1 ∨ n < many ∨ B < 1 ∨ many < B ∨ At < 0 ∨ 64 < At ∨ 64 - At < t.length) :
    kCall Try.prog 5 [.int .i64 n, .int .i64 many, .agg [.int .i64 ask, .int .i64 B, .int .i64 At, .int .i64 N, .string (bs t)].toArray] σ fun v _ => v = .bool true := by
  unfold maxLen at ht
  refine f5 ?_
  refine dite (n < 1) (fun g1 => ?_) fun g1 => dite (100 < n) (fun g2 => ?_) fun g2 => dite (many < 1) (fun g3 => ?_) fun g3 => dite (n < many) (fun g4 => ?_) fun g4 => dite (B < 1) (fun g5 => ?_) fun g5 =>
    dite (many < B) (fun g6 => ?_) fun g6 => dite (At < 0) (fun g7 => ?_) fun g7 => dite (64 < At) (fun g8 => ?_) fun g8 => dite (64 - At < t.length) (fun g9 => ?_) fun g9 => ?_
  iterate 9
    case _ =>
      (try simp (maxSteps := 1000000) (dsimp := false) (disch := (first | omega | (simp only [okR]; done) | (simp only [sizeR] <;> omega) | fail)) only [↓preR, postR, ↓w_join, Nat.reduceEqDiff, Nat.reduceAdd, Nat.reduceSub, Nat.reduceMul, Int.reduceNeg, Nat.reduceLT, Int.reduceToNat, Nat.reduceLeDiff, Nat.sub_zero, F5])
      refine awake_ok (fun j => ?_)
      (try simp (maxSteps := 1000000) (dsimp := false) (disch := (first | omega | (simp only [okR]; done) | (simp only [sizeR] <;> omega) | fail)) only [↓preR, postR, ↓w_join, Nat.reduceEqDiff, Nat.reduceAdd, Nat.reduceSub, Nat.reduceMul, Int.reduceNeg, Nat.reduceLT, Int.reduceToNat, Nat.reduceLeDiff, Nat.sub_zero])
  omega
theorem keeps_in (n many b a : Nat) (ask N : Int) (t : List UInt8) (g1 : 1 ≤ n) (g2 : n ≤ 100) (g3 : 1 ≤ many) (g4 : many ≤ n) (g5 : b < many) (g6 : a + t.length ≤ 64) :
    kCall Try.prog 5 [.int .i64 n, .int .i64 many, .agg [.int .i64 ask, .int .i64 (b + 1), .int .i64 a, .int .i64 N, .string (bs t)].toArray] σ fun v _ => v = .bool true := by
  refine f5 ?_
  (try simp (maxSteps := 1000000) (dsimp := false) (disch := (first | omega | (simp only [okR]; done) | (simp only [sizeR] <;> omega) | fail)) only [↓preR, postR, ↓w_join, Nat.reduceEqDiff, Nat.reduceAdd, Nat.reduceSub, Nat.reduceMul, Int.reduceNeg, Nat.reduceLT, Int.reduceToNat, Nat.reduceLeDiff, Nat.sub_zero, F5])
  generalize hs : σ.new _ = σa
  have o1 : σa.m σ.n = some (.cells [.int .i64 ask, .int .i64 (b + 1), .int .i64 a, .int .i64 N, .string (bs t)]) := by rw [← hs]; exact new_eq_
  have n1 : σa.n = σ.n + 1 := by rw [← hs]; rfl
  refine new_some n (by omega) (by omega) (fun σ1 p s hp hs c1 h1 => ?_)
  have hS : ∀ g, g ∈ [p, s] → σa.n ≤ g := by intro g hg; simp at hg; omega
  have ob : ∀ {σ'}, Chg [] σa σ' → σ'.m σ.n = some (.cells [.int .i64 ask, .int .i64 (b + 1), .int .i64 a, .int .i64 N, .string (bs t)]) := fun h => (h.m _ (by omega) (by simp)).trans o1
  (try simp (maxSteps := 1000000) (dsimp := false) (disch := (first | omega | (simp only [okR]; done) | (simp only [sizeR] <;> omega) | fail)) only [↓preR, postR, ↓w_join, Nat.reduceEqDiff, Nat.reduceAdd, Nat.reduceSub, Nat.reduceMul, Int.reduceNeg, Nat.reduceLT, Int.reduceToNat, Nat.reduceLeDiff, Nat.sub_zero])
  refine loop_by (α := Nat × AS) (fun x => [.int .i64 (x.1 + 1)]) (fun x => x.2) (fun x => x.1 ≤ many ∧ Sto x.2 p s n [] (stp n x.1) ∧ Chg [] σa x.2) (fun x => many - x.1) (0, σ1) ⟨by simp, by rw [stp_zero]; exact h1, c1.chg⟩ rfl rfl ?_
  rintro ⟨k, σ2⟩ ⟨hk, h2, c2⟩ again hag
  dsimp only at hk h2 c2 hag ⊢
  by_cases hlt : k < many
  · (try simp (maxSteps := 1000000) (dsimp := false) (disch := (first | omega | (simp only [okR]; done) | (simp only [sizeR] <;> omega) | fail)) only [↓preR, postR, ↓w_join, Nat.reduceEqDiff, Nat.reduceAdd, Nat.reduceSub, Nat.reduceMul, Int.reduceNeg, Nat.reduceLT, Int.reduceToNat, Nat.reduceLeDiff, Nat.sub_zero])
    refine take_e h2 (stp_take n k (by omega)) (fun σ3 h3 c3 => ?_)
    (try simp (maxSteps := 1000000) (dsimp := false) (disch := (first | omega | (simp only [okR]; done) | (simp only [sizeR] <;> omega) | fail)) only [↓preR, postR, ↓w_join, Nat.reduceEqDiff, Nat.reduceAdd, Nat.reduceSub, Nat.reduceMul, Int.reduceNeg, Nat.reduceLT, Int.reduceToNat, Nat.reduceLeDiff, Nat.sub_zero])
    refine cvb_by (l := wr3 k) rfl ?_ ?_
    · have e1 : UInt8.toNat (UInt8.ofNat (k + 1)) = k + 1 := by simp; omega
      rw [ldsM new_eq_ 3 0 (by simp)]
      simp only [wr3, List.map_cons, List.map_nil, e1, Int.natCast_add, Int.natCast_one]
      rfl
    · (try simp (maxSteps := 1000000) (dsimp := false) (disch := (first | omega | (simp only [okR]; done) | (simp only [sizeR] <;> omega) | fail)) only [↓preR, postR, ↓w_join, Nat.reduceEqDiff, Nat.reduceAdd, Nat.reduceSub, Nat.reduceMul, Int.reduceNeg, Nat.reduceLT, Int.reduceToNat, Nat.reduceLeDiff, Nat.sub_zero])
      refine write_e (h3.new _) (write_at _ k 0 (wr3 k) (by rw [List.length_set, stp_len]; omega) (by rw [List.getElem_set_self]) (by simp [wr3])) (fun σ4 h4 c4 => ?_)
      rw [List.getElem_set_self, lays_wr, stp_next n k (by omega)] at h4
      (try simp (maxSteps := 1000000) (dsimp := false) (disch := (first | omega | (simp only [okR]; done) | (simp only [sizeR] <;> omega) | fail)) only [↓preR, postR, ↓w_join, Nat.reduceEqDiff, Nat.reduceAdd, Nat.reduceSub, Nat.reduceMul, Int.reduceNeg, Nat.reduceLT, Int.reduceToNat, Nat.reduceLeDiff, Nat.sub_zero])
      exact hag (k + 1, σ4) ⟨by omega, h4, ((c2.two c3 hS).new _).two c4 hS⟩ (by simp; omega)
  · obtain rfl : k = many := by omega
    have hb : b < (stp n k).length := by rw [stp_len]; omega
    (try simp (maxSteps := 1000000) (dsimp := false) (disch := (first | omega | (simp only [okR]; done) | (simp only [sizeR] <;> omega) | fail)) only [↓preR, postR, ↓w_join, Nat.reduceEqDiff, Nat.reduceAdd, Nat.reduceSub, Nat.reduceMul, Int.reduceNeg, Nat.reduceLT, Int.reduceToNat, Nat.reduceLeDiff, Nat.sub_zero, ob c2])
    refine read_e h2 (read_at _ b 0 64 hb (by rw [stp_lt _ _ _ _ g5]) (by omega)) ?_
    rw [show ((stp n k)[b].2.drop 0).take 64 = wr b from by rw [stp_lt _ _ _ _ g5]; simp [wr, wr3]]
    have e2 := wr_len b
    (try simp (maxSteps := 1000000) (dsimp := false) (disch := (first | omega | (simp only [okR]; done) | (simp only [sizeR] <;> omega) | fail)) only [↓preR, postR, ↓w_join, Nat.reduceEqDiff, Nat.reduceAdd, Nat.reduceSub, Nat.reduceMul, Int.reduceNeg, Nat.reduceLT, Int.reduceToNat, Nat.reduceLeDiff, Nat.sub_zero, ob c2, e2])
    refine write_e h2 (write_at _ b a t hb (by rw [stp_lt _ _ _ _ g5]) g6) (fun σ3 h3 c3 => ?_)
    rw [stp_lt _ _ _ _ g5] at h3
    have c4 := c2.two c3 hS
    (try simp (maxSteps := 1000000) (dsimp := false) (disch := (first | omega | (simp only [okR]; done) | (simp only [sizeR] <;> omega) | fail)) only [↓preR, postR, ↓w_join, Nat.reduceEqDiff, Nat.reduceAdd, Nat.reduceSub, Nat.reduceMul, Int.reduceNeg, Nat.reduceLT, Int.reduceToNat, Nat.reduceLeDiff, Nat.sub_zero])
    refine loop_by (α := Nat × AS) (fun x => [.int .i64 (x.1 + 1)]) (fun x => x.2) (fun x => x.1 ≤ k ∧ Sto x.2 p s n [] ((stp n k).set b (true, lays (wr b) a t)) ∧ Chg [] σa x.2) (fun x => k - x.1) (0, σ3) ⟨by simp, h3, c4⟩ rfl rfl ?_
    rintro ⟨j, σ5⟩ ⟨hj, h5, c5⟩ again2 hag2
    dsimp only at hj h5 c5 hag2 ⊢
    by_cases hjl : j < k
    · (try simp (maxSteps := 1000000) (dsimp := false) (disch := (first | omega | (simp only [okR]; done) | (simp only [sizeR] <;> omega) | fail)) only [↓preR, postR, ↓w_stop, Nat.reduceEqDiff, Nat.reduceAdd, Nat.reduceSub, Nat.reduceMul, Int.reduceNeg, Nat.reduceLT, Int.reduceToNat, Nat.reduceLeDiff, Nat.sub_zero])
      refine join_now ?_
      (try simp (maxSteps := 1000000) (dsimp := false) (disch := (first | omega | (simp only [okR]; done) | (simp only [sizeR] <;> omega) | fail)) only [↓preR, postR, ↓w_stop, Nat.reduceEqDiff, Nat.reduceAdd, Nat.reduceSub, Nat.reduceMul, Int.reduceNeg, Nat.reduceLT, Int.reduceToNat, Nat.reduceLeDiff, Nat.sub_zero])
      refine join_now ?_
      have hjn : j < ((stp n k).set b (true, lays (wr b) a t)).length := by rw [List.length_set, stp_len]; omega
      have ev : ((stp n k).set b (true, lays (wr b) a t))[j] = (true, if j = b then lays (wr b) a t else wr j) := by
        by_cases hjb : j = b
        · subst hjb; rw [List.getElem_set_self]; simp
        · rw [List.getElem_set_ne (fun e => hjb e.symm), stp_lt _ _ _ _ hjl]; simp [hjb]
      have el : (if j = b then lays (wr b) a t else wr j).length = 64 := by
        split
        · rw [lays_len _ _ _ (by omega), wr_len]
        · exact wr_len j
      refine read_e h5 (read_at _ j 0 64 hjn (by rw [ev]) (by omega)) ?_
      rw [ev, List.drop_zero, List.take_of_length_le (by show List.length (if j = b then _ else _) ≤ 64; omega)]
      (try simp (maxSteps := 1000000) (dsimp := false) (disch := (first | omega | (simp only [okR]; done) | (simp only [sizeR] <;> omega) | fail)) only [↓preR, postR, ↓w_stop, Nat.reduceEqDiff, Nat.reduceAdd, Nat.reduceSub, Nat.reduceMul, Int.reduceNeg, Nat.reduceLT, Int.reduceToNat, Nat.reduceLeDiff, Nat.sub_zero])
      refine join_by fun J9 hJ9 => ?_
      have hw : ∀ s', Sto s' p s n [] ((stp n k).set b (true, lays (wr b) a t)) → Chg [] σa s' → J9 [.string (bs (wr j))] s' := by
        intro s' h6 c6
        refine hJ9 _ _ ?_
        clear hJ9
        by_cases hjb : j = b
        · subst hjb
          have l1 : ((wr j).take a).length = a := by rw [List.length_take]; omega
          have l2 : ((wr j).take a ++ t).length = a + t.length := by rw [List.length_append, l1]
          have l3 : ((wr j).drop (a + t.length)).length = 64 - (a + t.length) := by rw [List.length_drop, e2]
          have e3 : List.take (64 - (a + t.length)) ((wr j).drop (a + t.length)) = (wr j).drop (a + t.length) := List.take_of_length_le (by omega)
          have e4 : lays (wr j) a t = (wr j).take a ++ t ++ (wr j).drop (a + t.length) := rfl
          (try simp (maxSteps := 1000000) (dsimp := false) (disch := (first | omega | (simp only [okR]; done) | (simp only [sizeR] <;> omega) | fail)) only [↓preR, postR, ↓w_join, Nat.reduceEqDiff, Nat.reduceAdd, Nat.reduceSub, Nat.reduceMul, Int.reduceNeg, Nat.reduceLT, Int.reduceToNat, Nat.reduceLeDiff, Nat.sub_zero, ob c6, e2, tn_add, e3, e4])
          exact hag2 (j + 1, s') ⟨by omega, h6, c6⟩ (by simp; omega)
        · (try simp (maxSteps := 1000000) (dsimp := false) (disch := (first | omega | (simp only [okR]; done) | (simp only [sizeR] <;> omega) | fail)) only [↓preR, postR, ↓w_join, Nat.reduceEqDiff, Nat.reduceAdd, Nat.reduceSub, Nat.reduceMul, Int.reduceNeg, Nat.reduceLT, Int.reduceToNat, Nat.reduceLeDiff, Nat.sub_zero, ob c6])
          exact hag2 (j + 1, s') ⟨by omega, h6, c6⟩ (by simp; omega)
      have e1 : UInt8.toNat (UInt8.ofNat (j + 1)) = j + 1 := by simp; omega
      have e3 : [Value.int .u8 ((j : Int) + 1), .int .u8 1, .int .u8 2] = (wr3 j).map fun b => Value.int .u8 b.toNat := by
        simp only [wr3, List.map_cons, List.map_nil, e1, Int.natCast_add, Int.natCast_one]
        rfl
      have e5 : wr3 j ++ List.replicate 61 0 = wr j := rfl
      have l0 : (wr3 j).length = 3 := rfl
      have l6 : (List.replicate 61 (0 : UInt8)).length = 61 := by simp
      have tail : ∀ s' (x : Value), Sto s' p s n [] ((stp n k).set b (true, lays (wr b) a t)) → Chg [] σa s' → x = .string (bs (wr j)) → J9 [x] s' := fun s' x h1 h2 h3 => by rw [h3]; exact hw s' h1 h2
      clear hw hJ9 hag2 ev el
      (try simp (maxSteps := 1000000) (dsimp := false) (disch := (first | omega | (simp only [okR]; done) | (simp only [sizeR] <;> omega) | fail)) only [↓preR, postR, ↓w_join, Nat.reduceEqDiff, Nat.reduceAdd, Nat.reduceSub, Nat.reduceMul, Int.reduceNeg, Nat.reduceLT, Int.reduceToNat, Nat.reduceLeDiff, Nat.sub_zero, e3, z61, e5])
      repeat' (first
        | (with_reducible refine alt_i ?_ ?_)
        | (with_reducible refine cvb_all (l := wr3 j) (by (try simp (maxSteps := 1000000) (dsimp := false) (disch := (first | omega | (simp only [okR]; done) | (simp only [sizeR] <;> omega) | fail)) only [↓preR, postR, ↓w_join, Nat.reduceEqDiff, Nat.reduceAdd, Nat.reduceSub, Nat.reduceMul, Int.reduceNeg, Nat.reduceLT, Int.reduceToNat, Nat.reduceLeDiff, Nat.sub_zero])) rfl ?_)
        | (with_reducible refine cvb_all (l := List.replicate 61 0) (by (try simp (maxSteps := 1000000) (dsimp := false) (disch := (first | omega | (simp only [okR]; done) | (simp only [sizeR] <;> omega) | fail)) only [↓preR, postR, ↓w_join, Nat.reduceEqDiff, Nat.reduceAdd, Nat.reduceSub, Nat.reduceMul, Int.reduceNeg, Nat.reduceLT, Int.reduceToNat, Nat.reduceLeDiff, Nat.sub_zero])) l6 ?_)
        | exact tail _ _ ((h5.new _).new _) ((c5.new _).new _) rfl
        | (simp (maxSteps := 1000000) (dsimp := false) (disch := (first | omega | (simp only [okR]; done) | (simp only [sizeR] <;> omega) | fail)) only [↓preR, postR, ↓w_join, Nat.reduceEqDiff, Nat.reduceAdd, Nat.reduceSub, Nat.reduceMul, Int.reduceNeg, Nat.reduceLT, Int.reduceToNat, Nat.reduceLeDiff, Nat.sub_zero, e3, z61, e5]))
    · obtain rfl : j = k := by omega
      (try simp (maxSteps := 1000000) (dsimp := false) (disch := (first | omega | (simp only [okR]; done) | (simp only [sizeR] <;> omega) | fail)) only [↓preR, postR, ↓w_join, Nat.reduceEqDiff, Nat.reduceAdd, Nat.reduceSub, Nat.reduceMul, Int.reduceNeg, Nat.reduceLT, Int.reduceToNat, Nat.reduceLeDiff, Nat.sub_zero])
      refine free_any h5 ?_
      have hb' : b < (stp n j).length := by rw [stp_len]; omega
      have f1 := free_set (stp n j) b hb' (true, lays (wr b) a t)
      have f2 := stp_free n j (by omega)
      rw [stp_lt _ _ _ _ g5] at f1
      simp only [Bool.true_eq_false, if_false] at f1
      (try simp (maxSteps := 1000000) (dsimp := false) (disch := (first | omega | (simp only [okR]; done) | (simp only [sizeR] <;> omega) | fail)) only [↓preR, postR, ↓w_join, Nat.reduceEqDiff, Nat.reduceAdd, Nat.reduceSub, Nat.reduceMul, Int.reduceNeg, Nat.reduceLT, Int.reduceToNat, Nat.reduceLeDiff, Nat.sub_zero])
      refine awake_ok (fun j => ?_)
      (try simp (maxSteps := 1000000) (dsimp := false) (disch := (first | omega | (simp only [okR]; done) | (simp only [sizeR] <;> omega) | fail)) only [↓preR, postR, ↓w_join, Nat.reduceEqDiff, Nat.reduceAdd, Nat.reduceSub, Nat.reduceMul, Int.reduceNeg, Nat.reduceLT, Int.reduceToNat, Nat.reduceLeDiff, Nat.sub_zero])
theorem keeps_law {c : Ce} {v0 v1 v2 : Value} (A0 : OV c (shOf Try.prog 8 3) v0) (A1 : OV c (shOf Try.prog 8 3) v1) (A2 : OV c (shOf Try.prog 8 40) v2) :
    kCall Try.prog 5 [v0, v1, v2] σ fun v _ => v = .bool true := by
  rw [show shOf Try.prog 8 3 = .int .i64 from by kernel_rfl] at A0 A1
  rw [show shOf Try.prog 8 40 = .fld 1 (.int .i64) (.fld 1 (.int .i64) (.fld 1 (.int .i64) (.fld 1 (.int .i64) (.fld 1 .str .fin)))) from by kernel_rfl] at A2
  obtain ⟨n, rfl, _⟩ := arg_int A0
  obtain ⟨many, rfl, _⟩ := arg_int A1
  obtain ⟨⟨ask, B, At, N, t⟩, _, rfl, _, _, rfl, ⟨rfl, _⟩, _, _, rfl, ⟨rfl, wB⟩, _, _, rfl, ⟨rfl, wA⟩, _, _, rfl, ⟨rfl, _⟩, rfl, ht⟩ := arg_agg (α := Int × Int × Int × Int × Str) A2
  dsimp only at wB wA ht ⊢
  change List UInt8 at t
  simp only [List.cons_append, List.nil_append]
  by_cases h : n < 1 ∨ 100 < n ∨ many < 1 ∨ n < many ∨ B < 1 ∨ many < B ∨ At < 0 ∨ 64 < At ∨ 64 - At < t.length
  · exact keeps_out n many ask B At N t ht wB wA h
  · obtain ⟨n, rfl⟩ : ∃ m : Nat, n = m := ⟨n.toNat, by omega⟩
    obtain ⟨many, rfl⟩ : ∃ m : Nat, many = m := ⟨many.toNat, by omega⟩
    obtain ⟨b, rfl⟩ : ∃ m : Nat, B = m + 1 := ⟨(B - 1).toNat, by omega⟩
    obtain ⟨a, rfl⟩ : ∃ m : Nat, At = m := ⟨At.toNat, by omega⟩
    exact keeps_in n many b a ask N t (by omega) (by omega) (by omega) (by omega) (by omega) (by omega)
end
end Go.Proofs.Ytfiknjogkpbgdaa
