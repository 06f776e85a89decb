/- Processes: the tree, and that each that ended is taken up once at most. Conditions: as each theorem says. -/
import Derived.Test.YtkponloccimdlaaPrW
namespace Go.Proofs.Ytkponloccimdlaa
open E Go.Lib PT
set_option linter.unusedVariables false
set_option linter.unusedSimpArgs false
set_option maxHeartbeats 1000000
set_option maxRecDepth 20000

/-- A call, as it came in. -/
abbrev Op3 := Int × Int × Int
theorem ops_arg {c : Ce} {v : Value} (A : OV c (shOf Try.prog 8 22) v) : ∃ l : List Op3, RepL c v l := by
  rw [show shOf Try.prog 8 22 = .slice (.fld 1 (.int .i64) (.fld 1 (.int .i64) (.fld 1 (.int .i64) .fin))) (1 + (1 + 1)) from by kernel_rfl] at A
  exact arg_list (α := Op3) A
theorem ops_get {c : Ce} {v : Value} {l : List Op3} (h : RepL c v l) : ∃ a b o cap, v = .slice a l.length cap ∧ l.length ≤ cap ∧ cap ≤ maxLen ∧ ∀ i (hi : i < l.length), a = some ⟨b, o, none⟩ ∧
    c b (o + i * 3) = some (.int .i64 l[i].1) ∧ c b (o + i * 3 + 1) = some (.int .i64 l[i].2.1) ∧ c b (o + i * 3 + 1 + 1) = some (.int .i64 l[i].2.2) := by
  obtain ⟨a, b, o, cap, h1, h2, h3, h4⟩ := h.get
  refine ⟨a, b, o, cap, h1, h2, h3, fun i hi => ?_⟩
  obtain ⟨h5, cs, h6, _, h7⟩ := h4 i hi
  obtain ⟨x, _, rfl, ⟨rfl, _⟩, y, z, rfl, ⟨rfl, _⟩, rfl, _⟩ := h6
  exact ⟨h5, h7 0 _ rfl, h7 1 _ rfl, h7 2 _ rfl⟩
/-- How many there are among these. -/
def cnt (f : PV) (n : Nat) : Nat := ((List.range n).filter fun i : Nat => (f ((i : Int) + 1)).isSome).length
theorem cnt_succ (f : PV) (n : Nat) : cnt f (n + 1) = cnt f n + if (f (n + 1)).isSome then 1 else 0 := by
  unfold cnt
  rw [List.range_succ, List.filter_append, List.length_append]
  congr 1
  by_cases h : (f ((n : Int) + 1)).isSome <;> simp [h]
theorem cnt_le (f : PV) : ∀ n, cnt f n ≤ n := by
  intro n
  induction n with
  | zero => simp [cnt]
  | succ n ih => rw [cnt_succ]; split <;> omega
theorem len_cnt {l : Tl} (hn : Nd l) {most : Nat} (hk : ∀ i c, vw l i = some c → 1 ≤ i ∧ i ≤ most) : l.length = cnt (vw l) most := by
  have h1 : (l.map (·.1)).Nodup := by
    rw [List.Nodup, List.pairwise_map]; exact hn.1
  have h2 : (((List.range most).filter fun i : Nat => (vw l ((i : Int) + 1)).isSome).map fun i : Nat => (i : Int) + 1).Nodup := by
    rw [List.Nodup, List.pairwise_map]
    exact (List.nodup_range.filter _).imp (fun h => by omega)
  have e1 : l.length = (l.map (·.1)).length := by simp
  have e2 : cnt (vw l) most = (((List.range most).filter fun i : Nat => (vw l ((i : Int) + 1)).isSome).map fun i : Nat => (i : Int) + 1).length := by simp [cnt]
  rw [e1, e2]
  apply Nat.le_antisymm
  · refine List.Nodup.length_le_of_subset h1 (fun i hi => ?_)
    obtain ⟨e, he, rfl⟩ := List.mem_map.1 hi
    obtain ⟨c, hc⟩ := key_some he
    have := hk _ c hc
    refine List.mem_map.2 ⟨(e.1 - 1).toNat, List.mem_filter.2 ⟨List.mem_range.2 (by omega), ?_⟩, by omega⟩
    rw [show ((e.1 - 1).toNat : Int) + 1 = e.1 from by omega, hc]; rfl
  · refine List.Nodup.length_le_of_subset h2 (fun i hi => ?_)
    obtain ⟨n, hn', rfl⟩ := List.mem_map.1 hi
    have := (List.mem_filter.1 hn').2
    obtain ⟨c, hc⟩ := Option.isSome_iff_exists.1 this
    unfold vw at hc
    rw [Option.map_eq_some_iff] at hc
    obtain ⟨x, hx, _⟩ := hc
    exact List.mem_map.2 ⟨_, lookup_mem hx, rfl⟩
/-- How many stand no higher. -/
def below (l : Tl) (rk : Int → Nat) (i : Int) : Nat := (l.filter fun e => decide (rk e.1 ≤ rk i)).length
theorem below_lt {l : Tl} {rk : Int → Nat} {i p : Int} (hi : ∃ c, vw l i = some c) (h : rk p < rk i) : below l rk p < below l rk i := by
  obtain ⟨c, hc⟩ := hi
  unfold vw at hc
  rw [Option.map_eq_some_iff] at hc
  obtain ⟨x, hx, _⟩ := hc
  have hm := lookup_mem hx
  unfold below
  have key : ∀ l : Tl, (l.filter fun e => decide (rk e.1 ≤ rk p)).length ≤ (l.filter fun e => decide (rk e.1 ≤ rk i)).length := by
    intro l
    induction l with
    | nil => simp
    | cons e l ih =>
      rw [List.filter_cons, List.filter_cons]
      by_cases h1 : rk e.1 ≤ rk p
      · have : rk e.1 ≤ rk i := by omega
        simp [h1, this]; exact ih
      · by_cases h2 : rk e.1 ≤ rk i
        · simp [h1, h2]; omega
        · simp [h1, h2]; exact ih
  clear hx
  induction l with
  | nil => cases hm
  | cons e l ih =>
    rw [List.filter_cons, List.filter_cons]
    rcases List.mem_cons.1 hm with rfl | hm
    · have h1 : ¬ rk i ≤ rk p := by omega
      have := key l
      simp [h1]; omega
    · have := ih hm
      by_cases h1 : rk e.1 ≤ rk p
      · have h2 : rk e.1 ≤ rk i := by omega
        simp [h1, h2]; exact this
      · by_cases h2 : rk e.1 ≤ rk i
        · simp [h1, h2]; omega
        · simp [h1, h2]; exact this
theorem below_le (l : Tl) (rk : Int → Nat) (i : Int) : below l rk i ≤ l.length := List.length_filter_le _ _
section
variable {σ σ' : AS} {X : Ce} {R : List Ck} {k : Value → AS → Prop} {t r : Nat} {most : Int} {l : Tl}
theorem get_none {f : PV} {i : Int} (h : f i = none) : f.get i = ⟨0, 0, 0⟩ := by unfold PV.get; rw [h]; rfl
theorem get_some {f : PV} {i : Int} {c : Pr} (h : f i = some c) : f.get i = c := by unfold PV.get; rw [h]; rfl
theorem tree_walk {v0 : Value} {ops : List Op3} (h0 : RepL X v0 ops) (h : Hs σ X []) : kCall Try.prog 4 [v0] σ fun v _ => v = .bool true := by
  obtain ⟨va, vb, vo, vc, rfl, hle, hmx, hat⟩ := ops_get h0
  unfold maxLen at hmx
  refine f4 ?_
  (try simp (maxSteps := 1000000) (dsimp := false) (disch := (first | omega | (simp only [okR]; done) | (simp only [sizeR] <;> omega) | fail)) only [↓preR, postR, ↓w_join, Nat.reduceEqDiff, Nat.reduceAdd, Nat.reduceSub, Nat.reduceMul, Int.reduceNeg, Nat.reduceLT, Int.reduceToNat, Nat.reduceLeDiff, Nat.sub_zero, F4])
  refine new_c h (fun t r σ1 _ _ h1 => ?_) (fun hx => by omega)
  (try simp (maxSteps := 1000000) (dsimp := false) (disch := (first | omega | (simp only [okR]; done) | (simp only [sizeR] <;> omega) | fail)) only [↓preR, postR, ↓w_join, Nat.reduceEqDiff, Nat.reduceAdd, Nat.reduceSub, Nat.reduceMul, Int.reduceNeg, Nat.reduceLT, Int.reduceToNat, Nat.reduceLeDiff, Nat.sub_zero])
  refine loop_inv (fun n xs s => ∃ i l, xs = [.int .i64 (i : Nat)] ∧ i ≤ 100 ∧ i ≤ ops.length ∧ Hs s X (TH t r 50 none l []) ∧ Inv (vw l) 50 ∧ n = 100 - i) _ ⟨0, [], rfl, by omega, by omega, h1, PV.inv_zero, rfl⟩ ?_
  rintro n _ s again ⟨i, l, rfl, hi, hil, h2, hinv, rfl⟩ hag
  by_cases hc : i < ops.length ∧ i < 100
  rotate_left
  · have fin : kCall Try.prog 12 [] s (fun v s => v = .bool true) := awake_c h2 fun σ' => rfl
    by_cases hlt : i < ops.length
    · have hl' : (i : Int) < ops.length := by omega
      have : ¬ (i : Int) < 100 := by omega
      (try simp (maxSteps := 1000000) (dsimp := false) (disch := (first | omega | (simp only [okR]; done) | (simp only [sizeR] <;> omega) | fail)) only [↓preR, postR, ↓w_join, Nat.reduceEqDiff, Nat.reduceAdd, Nat.reduceSub, Nat.reduceMul, Int.reduceNeg, Nat.reduceLT, Int.reduceToNat, Nat.reduceLeDiff, Nat.sub_zero])
      exact fin
    · have hl' : ¬ (i : Int) < ops.length := by omega
      (try simp (maxSteps := 1000000) (dsimp := false) (disch := (first | omega | (simp only [okR]; done) | (simp only [sizeR] <;> omega) | fail)) only [↓preR, postR, ↓w_join, Nat.reduceEqDiff, Nat.reduceAdd, Nat.reduceSub, Nat.reduceMul, Int.reduceNeg, Nat.reduceLT, Int.reduceToNat, Nat.reduceLeDiff, Nat.sub_zero])
      exact fin
  obtain ⟨hlt, h100⟩ := hc
  obtain ⟨rfl, x0, x1, x2⟩ := hat i hlt
  have y0 := h2.ldx x0
  have y1 := h2.ldx x1
  have y2 := h2.ldx x2
  have hl' : (i : Int) < ops.length := by omega
  (simp (maxSteps := 1000000) (dsimp := false) (disch := (first | omega | (simp only [okR]; done) | (simp only [sizeR] <;> omega) | fail)) only [↓preR, postR, ↓w_join, Nat.reduceEqDiff, Nat.reduceAdd, Nat.reduceSub, Nat.reduceMul, Int.reduceNeg, Nat.reduceLT, Int.reduceToNat, Nat.reduceLeDiff, Nat.sub_zero, y0, y1, y2])
  refine do_c h2 hinv (by decide) fun a b e l' σ3 hdo h3 => ?_
  have hinv' := hdo.inv hinv
  clear y0 y1 y2 hdo h2 hinv
  have hlen := len_cnt h3.tnd (most := 50) hinv'.keys
  (simp (maxSteps := 1000000) (dsimp := false) (disch := (first | omega | (simp only [okR]; done) | (simp only [sizeR] <;> omega) | fail)) only [↓preR, postR, ↓w_join, Nat.reduceEqDiff, Nat.reduceAdd, Nat.reduceSub, Nat.reduceMul, Int.reduceNeg, Nat.reduceLT, Int.reduceToNat, Nat.reduceLeDiff, Nat.sub_zero])
  refine loop_inv (fun n xs s => ∃ p : Nat, xs = [.int .i64 (cnt (vw l') p), .int .i64 ((p : Int) + 1)] ∧ p ≤ 50 ∧ Hs s X (TH t r 50 none l' []) ∧ n = 50 - p) _ ⟨0, rfl, by omega, h3, rfl⟩ ?_
  rintro n _ s2 again2 ⟨p, rfl, hp, h4, rfl⟩ hag2
  have hcl := cnt_le (vw l') p
  by_cases hp50 : p < 50
  · have hag2' : ∀ s', Hs s' X (TH t r 50 none l' []) → again2 [.int .i64 (cnt (vw l') (p + 1)), .int .i64 ((p : Int) + 1 + 1)] s' := fun s' h' => hag2 _ _ _ ⟨p + 1, by simp, by omega, h', rfl⟩ (by omega)
    rw [cnt_succ] at hag2'
    (simp (maxSteps := 1000000) (dsimp := false) (disch := (first | omega | (simp only [okR]; done) | (simp only [sizeR] <;> omega) | fail)) only [↓preR, postR, ↓w_join, Nat.reduceEqDiff, Nat.reduceAdd, Nat.reduceSub, Nat.reduceMul, Int.reduceNeg, Nat.reduceLT, Int.reduceToNat, Nat.reduceLeDiff, Nat.sub_zero])
    refine state_c h4 fun σ5 h5 => ?_
    cases hf : vw l' ((p : Int) + 1) with
    | none =>
      rw [hf] at hag2'
      rw [get_none hf]
      (try simp (maxSteps := 1000000) (dsimp := false) (disch := (first | omega | (simp only [okR]; done) | (simp only [sizeR] <;> omega) | fail)) only [↓preR, postR, ↓w_join, Nat.reduceEqDiff, Nat.reduceAdd, Nat.reduceSub, Nat.reduceMul, Int.reduceNeg, Nat.reduceLT, Int.reduceToNat, Nat.reduceLeDiff, Nat.sub_zero])
      refine parent_c h5 fun σ6 h6 => ?_
      rw [get_none hf]
      (try simp (maxSteps := 1000000) (dsimp := false) (disch := (first | omega | (simp only [okR]; done) | (simp only [sizeR] <;> omega) | fail)) only [↓preR, postR, ↓w_join, Nat.reduceEqDiff, Nat.reduceAdd, Nat.reduceSub, Nat.reduceMul, Int.reduceNeg, Nat.reduceLT, Int.reduceToNat, Nat.reduceLeDiff, Nat.sub_zero])
      exact hag2' _ h6
    | some c =>
      rw [hf] at hag2'
      rw [get_some hf]
      have hst := hinv'.st _ c hf
      have hst0 : ¬ c.st = 0 := by omega
      (try simp (maxSteps := 1000000) (dsimp := false) (disch := (first | omega | (simp only [okR]; done) | (simp only [sizeR] <;> omega) | fail)) only [↓preR, postR, ↓w_join, Nat.reduceEqDiff, Nat.reduceAdd, Nat.reduceSub, Nat.reduceMul, Int.reduceNeg, Nat.reduceLT, Int.reduceToNat, Nat.reduceLeDiff, Nat.sub_zero])
      refine parent_c h5 fun σ6 h6 => ?_
      rw [get_some hf]
      obtain ⟨rk, hrk⟩ := hinv'.rk
      (try simp (maxSteps := 1000000) (dsimp := false) (disch := (first | omega | (simp only [okR]; done) | (simp only [sizeR] <;> omega) | fail)) only [↓preR, postR, ↓w_join, Nat.reduceEqDiff, Nat.reduceAdd, Nat.reduceSub, Nat.reduceMul, Int.reduceNeg, Nat.reduceLT, Int.reduceToNat, Nat.reduceLeDiff, Nat.sub_zero])
      refine loop_inv (fun n xs s => ∃ (j : Nat) (up : Int), xs = [.int .i64 up, .int .i64 j] ∧ Hs s X (TH t r 50 none l' []) ∧ (up = 0 ∨ ((vw l').liv up = true ∧ j + below l' rk up < l'.length)) ∧ n = if up = 0 then 0 else below l' rk up + 1) _ ⟨0, c.par, rfl, h6, ?_, rfl⟩ ?_
      · by_cases h0 : c.par = 0
        · exact .inl h0
        · refine .inr ⟨(hinv'.par _ c hf).resolve_left h0, ?_⟩
          have := below_lt (rk := rk) ⟨c, hf⟩ (hrk _ c hf h0)
          have := below_le l' rk ((p : Int) + 1)
          omega
      · rintro n _ s7 again3 ⟨j, up, rfl, h7, hup, rfl⟩ hag3
        by_cases h0 : up = 0
        · (try simp (maxSteps := 1000000) (dsimp := false) (disch := (first | omega | (simp only [okR]; done) | (simp only [sizeR] <;> omega) | fail)) only [↓preR, postR, ↓w_join, Nat.reduceEqDiff, Nat.reduceAdd, Nat.reduceSub, Nat.reduceMul, Int.reduceNeg, Nat.reduceLT, Int.reduceToNat, Nat.reduceLeDiff, Nat.sub_zero])
          simpa using hag2' _ h7
        · obtain ⟨hlv, hj⟩ := hup.resolve_left h0
          obtain ⟨d, hd, hds⟩ := PV.liv_iff.1 hlv
          have hdst := hinv'.st _ d hd
          have hcl' := cnt_le (vw l') 50
          have hj50 : (j : Int) ≤ 50 := by omega
          have hd0 : ¬ d.st = 0 := by omega
          (simp (maxSteps := 1000000) (dsimp := false) (disch := (first | omega | (simp only [okR]; done) | (simp only [sizeR] <;> omega) | fail)) only [↓preR, postR, ↓w_join, Nat.reduceEqDiff, Nat.reduceAdd, Nat.reduceSub, Nat.reduceMul, Int.reduceNeg, Nat.reduceLT, Int.reduceToNat, Nat.reduceLeDiff, Nat.sub_zero])
          refine state_c h7 fun σ8 h8 => ?_
          rw [get_some hd]
          (simp (maxSteps := 1000000) (dsimp := false) (disch := (first | omega | (simp only [okR]; done) | (simp only [sizeR] <;> omega) | fail)) only [↓preR, postR, ↓w_join, Nat.reduceEqDiff, Nat.reduceAdd, Nat.reduceSub, Nat.reduceMul, Int.reduceNeg, Nat.reduceLT, Int.reduceToNat, Nat.reduceLeDiff, Nat.sub_zero])
          refine state_c h8 fun σ9 h9 => ?_
          rw [get_some hd]
          (simp (maxSteps := 1000000) (dsimp := false) (disch := (first | omega | (simp only [okR]; done) | (simp only [sizeR] <;> omega) | fail)) only [↓preR, postR, ↓w_join, Nat.reduceEqDiff, Nat.reduceAdd, Nat.reduceSub, Nat.reduceMul, Int.reduceNeg, Nat.reduceLT, Int.reduceToNat, Nat.reduceLeDiff, Nat.sub_zero])
          refine parent_c h9 fun σ10 h10 => ?_
          rw [get_some hd]
          (try simp (maxSteps := 1000000) (dsimp := false) (disch := (first | omega | (simp only [okR]; done) | (simp only [sizeR] <;> omega) | fail)) only [↓preR, postR, ↓w_join, Nat.reduceEqDiff, Nat.reduceAdd, Nat.reduceSub, Nat.reduceMul, Int.reduceNeg, Nat.reduceLT, Int.reduceToNat, Nat.reduceLeDiff, Nat.sub_zero])
          by_cases hz : d.par = 0
          · refine hag3 _ _ _ ⟨j + 1, d.par, by simp, h10, .inl hz, rfl⟩ ?_
            rw [if_pos hz, if_neg h0]; omega
          · have hb := below_lt (rk := rk) ⟨d, hd⟩ (hrk _ d hd hz)
            refine hag3 _ _ _ ⟨j + 1, d.par, by simp, h10, .inr ⟨(hinv'.par _ d hd).resolve_left hz, by omega⟩, rfl⟩ ?_
            rw [if_neg hz, if_neg h0]; omega
  · obtain rfl : p = 50 := by omega
    (simp (maxSteps := 1000000) (dsimp := false) (disch := (first | omega | (simp only [okR]; done) | (simp only [sizeR] <;> omega) | fail)) only [↓preR, postR, ↓w_join, Nat.reduceEqDiff, Nat.reduceAdd, Nat.reduceSub, Nat.reduceMul, Int.reduceNeg, Nat.reduceLT, Int.reduceToNat, Nat.reduceLeDiff, Nat.sub_zero])
    refine many_c h4 ?_
    rw [hlen]
    (try simp (maxSteps := 1000000) (dsimp := false) (disch := (first | omega | (simp only [okR]; done) | (simp only [sizeR] <;> omega) | fail)) only [↓preR, postR, ↓w_join, Nat.reduceEqDiff, Nat.reduceAdd, Nat.reduceSub, Nat.reduceMul, Int.reduceNeg, Nat.reduceLT, Int.reduceToNat, Nat.reduceLeDiff, Nat.sub_zero])
    have := hag 0 [.int .i64 ((i + 1 : Nat) : Int)] s2
    exact hag _ _ _ ⟨i + 1, l', by simp, by omega, by omega, h4, hinv', rfl⟩ (by omega)
theorem tree_law {w : World} {v0 : Value} (A0 : OV (E.start w).c (shOf Try.prog 8 22) v0) : kCall Try.prog 4 [v0] (E.start w) fun v _ => v = .bool true := by
  obtain ⟨l, hl⟩ := ops_arg A0
  exact tree_walk hl (Hs.start w)
end
end Go.Proofs.Ytkponloccimdlaa
