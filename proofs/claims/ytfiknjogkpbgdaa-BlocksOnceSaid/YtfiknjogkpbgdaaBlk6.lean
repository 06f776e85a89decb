/- No block is taken twice: the walk. Conditions: as each theorem says. -/
import Derived.Test.YtfiknjogkpbgdaaBlk4
namespace Go.Proofs.Ytfiknjogkpbgdaa
open E
set_option linter.unusedVariables false
set_option linter.unusedSimpArgs false
set_option maxHeartbeats 4000000

/-- The row of what is taken: place 0 is idle. -/
def tks (st : List Bk) : List Value := .bool false :: st.map fun b => .bool b.1
theorem tks_at (st : List Bk) (k : Nat) (hk : k < st.length) : (tks st)[k + 1]? = some (.bool st[k].1) := by
  simp [tks, hk]
theorem tks_set (st : List Bk) (k : Nat) (b : Bk) : (tks st).set (k + 1) (.bool b.1) = tks (st.set k b) := by
  simp [tks, List.map_set]
theorem tks_len (st : List Bk) : (tks st).length = st.length + 1 := by simp [tks]
theorem tks_fresh (n : Nat) : (List.replicate (n + 1) [Value.bool false]).flatten = tks (fresh n) := by
  have : ∀ m, (List.replicate m [Value.bool false]).flatten = List.replicate m (Value.bool false) := by
    intro m; induction m with
    | zero => rfl
    | succ m ih => simp [List.replicate_succ, ih]
  rw [this, tks, fresh, List.map_replicate, List.replicate_succ]
theorem idx_cases (st : List Bk) : (idxOf st = -1 ∧ free st = 0) ∨ ∃ k, ∃ h : k < st.length, idxOf st = k ∧ st[k].1 = false := by
  unfold idxOf
  cases h : st.findIdx? (fun b => !b.1) with
  | none =>
    refine .inl ⟨rfl, ?_⟩
    rw [List.findIdx?_eq_none_iff] at h
    simp only [free, List.countP_eq_zero]
    intro b hb
    have := h b hb
    simpa using this
  | some k =>
    rw [List.findIdx?_eq_some_iff_getElem] at h
    obtain ⟨hk, h1, _⟩ := h
    exact .inr ⟨k, hk, rfl, by simpa using h1⟩

/-- What holds at the loop's head. -/
structure OnceI (w0 w : World) (n p s g : Nat) (st : List Bk) : Prop where
  sto : Sto w p s n [] st
  len : st.length = n
  row : blk w g = some (tks st)
  keep : Keep [] w0 w
  hp : size w0 ≤ p
  hs : size w0 ≤ s
  hg : size w0 ≤ g
  gp : g ≠ p
  gs : g ≠ s

theorem OnceI.call {w0 w w' : World} {n p s g : Nat} {st st' : List Bk} (h : OnceI w0 w n p s g st) (h' : Sto w' p s n [] st') (k : Keep [p, s] w w') (hl : st'.length = n) (l : List Value) (hl' : l = tks st') : OnceI w0 (put w' g l) n p s g st' := by
  subst hl'
  have hgl : g < size w := blk_lt h.row
  have hgl' : g < size w' := Nat.lt_of_lt_of_le hgl k.sz
  refine ⟨⟨?_, ?_, h'.ne, h'.ok, h'.few, h'.cap⟩, hl, blk_put hgl' _, ?_, h.hp, h.hs, h.hg, h.gp, h.gs⟩
  · rw [blk_put_ne (Ne.symm h.gp)]; exact h'.ptr
  · rw [blk_put_ne (Ne.symm h.gs)]; exact h'.row
  · exact Keep.put_ (h.keep.step k (by
      intro i hi
      simp at hi
      rcases hi with rfl | rfl
      · exact .inr h.hp
      · exact .inr h.hs)) (.inr h.hg) _
theorem OnceI.idle {w0 w w' : World} {n p s g : Nat} {st : List Bk} (h : OnceI w0 w n p s g st) (k : Keep [] w w') : OnceI w0 w' n p s g st :=
  ⟨h.sto.keep0 k, h.len, (k.blk0 (blk_lt h.row)).trans h.row, h.keep.then k, h.hp, h.hs, h.hg, h.gp, h.gs⟩

theorem once_law (n : Int) (a : Option Addr) (len cap : Nat) (zs : List Int) (w : World) (hn : -9223372036854775808 ≤ n ∧ n ≤ 9223372036854775807) (hA : Arr w a len 1 (fun i => [.int .i64 (zs.getD i 0)])) (hlen : len ≤ 9223372036854775807)
    (hz : ∀ i, i < len → -9223372036854775808 ≤ zs.getD i 0 ∧ zs.getD i 0 ≤ 9223372036854775807) :
    callP Try.prog 3 [.int .i64 n, .slice a len cap] w fun v w' => v = .bool true ∧ Keep [] w w' := by
  have hend : ∀ w1, Keep [] w w1 → callP Try.prog 8 [] w1 fun v w' => v = .bool true ∧ Keep [] w w' := fun w1 k => callP_mono (awake_ok w1) fun v w' h => ⟨h.1, k.then h.2⟩
  refine fn_ok c3_ok rfl ?_
  by_cases h1 : n < 1
  · simp (maxSteps := 1000000) (disch := (first | omega | (simp only [sizeR] <;> omega))) only [↓codeR, valR, memR, Nat.reduceEqDiff, Nat.reduceAdd, Nat.reduceSub, Nat.reduceMul, Int.reduceNeg, Nat.reduceLT, Int.reduceToNat, Nat.reduceLeDiff, c3]
    refine call_by (hend w (Keep.refl _ _)) ?_
    rintro _ w1 ⟨rfl, k1⟩
    simp (maxSteps := 1000000) (disch := (first | omega | (simp only [sizeR] <;> omega))) only [↓codeR, valR, memR, Nat.reduceEqDiff, Nat.reduceAdd, Nat.reduceSub, Nat.reduceMul, Int.reduceNeg, Nat.reduceLT, Int.reduceToNat, Nat.reduceLeDiff]
    exact k1
  by_cases h2 : 100 < n
  · simp (maxSteps := 1000000) (disch := (first | omega | (simp only [sizeR] <;> omega))) only [↓codeR, valR, memR, Nat.reduceEqDiff, Nat.reduceAdd, Nat.reduceSub, Nat.reduceMul, Int.reduceNeg, Nat.reduceLT, Int.reduceToNat, Nat.reduceLeDiff, c3]
    refine call_by (hend w (Keep.refl _ _)) ?_
    rintro _ w1 ⟨rfl, k1⟩
    simp (maxSteps := 1000000) (disch := (first | omega | (simp only [sizeR] <;> omega))) only [↓codeR, valR, memR, Nat.reduceEqDiff, Nat.reduceAdd, Nat.reduceSub, Nat.reduceMul, Int.reduceNeg, Nat.reduceLT, Int.reduceToNat, Nat.reduceLeDiff]
    exact k1
  by_cases h3 : 100 < len
  · simp (maxSteps := 1000000) (disch := (first | omega | (simp only [sizeR] <;> omega))) only [↓codeR, valR, memR, Nat.reduceEqDiff, Nat.reduceAdd, Nat.reduceSub, Nat.reduceMul, Int.reduceNeg, Nat.reduceLT, Int.reduceToNat, Nat.reduceLeDiff, c3]
    refine call_by (hend w (Keep.refl _ _)) ?_
    rintro _ w1 ⟨rfl, k1⟩
    simp (maxSteps := 1000000) (disch := (first | omega | (simp only [sizeR] <;> omega))) only [↓codeR, valR, memR, Nat.reduceEqDiff, Nat.reduceAdd, Nat.reduceSub, Nat.reduceMul, Int.reduceNeg, Nat.reduceLT, Int.reduceToNat, Nat.reduceLeDiff]
    exact k1
  obtain ⟨n, rfl⟩ := Int.eq_ofNat_of_zero_le (show 0 ≤ n by omega)
  simp (maxSteps := 1000000) (disch := (first | omega | (simp only [sizeR] <;> omega))) only [↓codeR, valR, memR, Nat.reduceEqDiff, Nat.reduceAdd, Nat.reduceSub, Nat.reduceMul, Int.reduceNeg, Nat.reduceLT, Int.reduceToNat, Nat.reduceLeDiff, c3]
  refine call_by (new_some n (by omega) (by omega) w) ?_
  rintro _ w1 ⟨rfl, s1, k1⟩
  simp (maxSteps := 1000000) (disch := (first | omega | (simp only [sizeR] <;> omega))) only [↓codeR, valR, memR, Nat.reduceEqDiff, Nat.reduceAdd, Nat.reduceSub, Nat.reduceMul, Int.reduceNeg, Nat.reduceLT, Int.reduceToNat, Nat.reduceLeDiff]
  refine mks_by (by omega) (by omega) (by omega) (by omega) rfl (by omega) ?_
  simp (maxSteps := 1000000) (disch := (first | omega | (simp only [sizeR] <;> omega))) only [↓codeR, valR, memR, Nat.reduceEqDiff, Nat.reduceAdd, Nat.reduceSub, Nat.reduceMul, Int.reduceNeg, Nat.reduceLT, Int.reduceToNat, Nat.reduceLeDiff, tks_fresh]
  have hp1 := blk_lt s1.ptr
  have hI : OnceI w (new w1 (tks (fresh n)) 4) n (size w + 1) (size w) (size w1) (fresh n) := by
    have k2 : Keep [] w1 (new w1 (tks (fresh n)) 4) := by (repeat (first | exact Keep.refl _ _ | assumption | refine Keep.new_ ?_ _ _ | refine Keep.put_ ?_ (by first | omega | simp) _ | refine Keep.drewN ?_ _ | refine Keep.alloc ?_ _ | (refine Keep.then ?_ (by assumption))))
    exact ⟨s1.keep0 k2, by simp [fresh], blk_new _ _ _, k1.then k2, by omega, Nat.le_refl _, k1.sz, by omega, by omega⟩
  generalize hg : size w1 = g at *
  generalize hp : size w + 1 = p at *
  refine vc_loop [(4, 4), (8, 13), (40, 128)] (fun ρ w' => ∃ (i : Nat) (st : List Bk), i ≤ len ∧ ρ 9 = .int .i64 i ∧ ρ 8 = .int .i64 (n - free st) ∧ OnceI w w' n p (size w) g st) (fun ρ _ => match ρ 9 with | .int _ i => len - i.toNat | _ => 0) rfl ?_ ?_
  · exact ⟨0, fresh n, Nat.zero_le _, rfl, by rw [free_fresh]; simp [up], hI⟩
  · rintro ρ' w' ⟨i, st, hi, h9, h8, hI⟩
    replace h9 : ρ' 9 = .int .i64 i := h9
    replace h8 : ρ' 8 = .int .i64 (n - free st) := h8
    have hlen' := hI.len
    have hfl := free_le st
    by_cases hlt : i < len
    · obtain ⟨b, o, rfl, hb, hc⟩ := hA.at_ (by omega)
      have hx : w'.cell? ⟨b, o + i, none⟩ = some (.int .i64 (zs.getD i 0)) := by
        rw [hI.keep.cel0 _ _ hb]
        simpa using hc i hlt 0 _ rfl
      obtain ⟨hz1, hz2⟩ := hz i hlt
      generalize zs.getD i 0 = x at hx hz1 hz2
      by_cases hx0 : x ≤ 0
      · simp (maxSteps := 1000000) (disch := (first | omega | (simp only [sizeR] <;> omega))) only [↓codeR, valR, memR, Nat.reduceEqDiff, Nat.reduceAdd, Nat.reduceSub, Nat.reduceMul, Int.reduceNeg, Nat.reduceLT, Int.reduceToNat, Nat.reduceLeDiff, h9, h8, hx]
        rcases idx_cases st with ⟨hid, hf0⟩ | ⟨k, hk, hid, hf⟩
        · refine call_by (take_none hI.sto hid) ?_
          rintro _ w2 ⟨rfl, k2⟩
          simp (maxSteps := 1000000) (disch := (first | omega | (simp only [sizeR] <;> omega))) only [↓codeR, valR, memR, Nat.reduceEqDiff, Nat.reduceAdd, Nat.reduceSub, Nat.reduceMul, Int.reduceNeg, Nat.reduceLT, Int.reduceToNat, Nat.reduceLeDiff, h9, h8]
          exact ⟨⟨i + 1, st, by omega, rfl, rfl, hI.idle k2⟩, by omega⟩
        · refine call_by (take_some hI.sto k hk hid hf) ?_
          rintro _ w2 ⟨rfl, h2, k2⟩
          have hg2 : blk w2 g = some (tks st) := (k2.blk (blk_lt hI.row) (by simp [hI.gp, hI.gs])).trans hI.row
          have hfs := free_set st k hk (true, zero64)
          rw [hf] at hfs
          simp only [if_true, Bool.true_eq_false, if_false] at hfs
          have hI' := hI.call h2 k2 (by simpa using hlen') ((tks st).set (k + 1) (.bool true)) (tks_set st k (true, zero64))
          simp (maxSteps := 1000000) (disch := (first | omega | (simp only [sizeR] <;> omega))) only [↓codeR, valR, memR, Nat.reduceEqDiff, Nat.reduceAdd, Nat.reduceSub, Nat.reduceMul, Int.reduceNeg, Nat.reduceLT, Int.reduceToNat, Nat.reduceLeDiff, h9, h8, hg2, cel hg2, tks_at st k hk, hf, tks_len]
          refine call_by (free_any hI'.sto) ?_
          rintro _ _ ⟨rfl, rfl⟩
          simp (maxSteps := 1000000) (disch := (first | omega | (simp only [sizeR] <;> omega))) only [↓codeR, valR, memR, Nat.reduceEqDiff, Nat.reduceAdd, Nat.reduceSub, Nat.reduceMul, Int.reduceNeg, Nat.reduceLT, Int.reduceToNat, Nat.reduceLeDiff, h9, h8]
          exact ⟨⟨i + 1, _, by omega, rfl, by congr 1; omega, hI'⟩, by omega⟩
      · obtain ⟨k, rfl⟩ : ∃ k : Nat, x = k + 1 := ⟨(x - 1).toNat, by omega⟩
        simp (maxSteps := 1000000) (disch := (first | omega | (simp only [sizeR] <;> omega))) only [↓codeR, valR, memR, Nat.reduceEqDiff, Nat.reduceAdd, Nat.reduceSub, Nat.reduceMul, Int.reduceNeg, Nat.reduceLT, Int.reduceToNat, Nat.reduceLeDiff, h9, h8, hx]
        by_cases ht : tkn st (k + 1)
        · obtain ⟨k', hkk, hk, ht⟩ := ht
          obtain rfl : k = k' := by omega
          refine call_by (give_some hI.sto k hk ht) ?_
          rintro _ w2 ⟨rfl, h2, k2⟩
          have hg2 : blk w2 g = some (tks st) := (k2.blk (blk_lt hI.row) (by simp [hI.gp, hI.gs])).trans hI.row
          have hx2 : w2.cell? ⟨b, o + i, none⟩ = some (.int .i64 (k + 1)) := by
            rw [k2.cel (Nat.lt_of_lt_of_le hb hI.keep.sz) (by have := hI.hp; have := hI.hs; simp; omega)]; exact hx
          have hfs := free_set st k hk (false, st[k].2)
          have hfl2 := free_le (st.set k (false, st[k].2))
          rw [ht] at hfs
          simp only [if_true, Bool.true_eq_false, if_false, List.length_set] at hfs hfl2
          have hbg : b ≠ g := by have := hI.hg; omega
          have hI' := hI.call h2 k2 (by simpa using hlen') ((tks st).set (k + 1) (.bool false)) (tks_set st k (false, st[k].2))
          simp (maxSteps := 1000000) (disch := (first | omega | (simp only [sizeR] <;> omega))) only [↓codeR, valR, memR, Nat.reduceEqDiff, Nat.reduceAdd, Nat.reduceSub, Nat.reduceMul, Int.reduceNeg, Nat.reduceLT, Int.reduceToNat, Nat.reduceLeDiff, h9, h8, hg2, cel hg2, tks_at st k hk, ht, tks_len, hx2]
          refine call_by (free_any hI'.sto) ?_
          rintro _ _ ⟨rfl, rfl⟩
          simp (maxSteps := 1000000) (disch := (first | omega | (simp only [sizeR] <;> omega))) only [↓codeR, valR, memR, Nat.reduceEqDiff, Nat.reduceAdd, Nat.reduceSub, Nat.reduceMul, Int.reduceNeg, Nat.reduceLT, Int.reduceToNat, Nat.reduceLeDiff, h9, h8]
          exact ⟨⟨i + 1, _, by omega, rfl, by congr 1; omega, hI'⟩, by omega⟩
        · refine call_by (give_none hI.sto _ ht) ?_
          rintro _ _ ⟨rfl, rfl⟩
          have hg2 := hI.row
          by_cases hkn : k < st.length
          · have hf : st[k].1 = false := by
              cases hc : st[k].1
              · rfl
              · exact absurd ⟨k, rfl, hkn, hc⟩ ht
            simp (maxSteps := 1000000) (disch := (first | omega | (simp only [sizeR] <;> omega))) only [↓codeR, valR, memR, Nat.reduceEqDiff, Nat.reduceAdd, Nat.reduceSub, Nat.reduceMul, Int.reduceNeg, Nat.reduceLT, Int.reduceToNat, Nat.reduceLeDiff, h9, h8, cel hg2, tks_at st k hkn, hf, tks_len, hx]
            refine call_by (free_any hI.sto) ?_
            rintro _ _ ⟨rfl, rfl⟩
            simp (maxSteps := 1000000) (disch := (first | omega | (simp only [sizeR] <;> omega))) only [↓codeR, valR, memR, Nat.reduceEqDiff, Nat.reduceAdd, Nat.reduceSub, Nat.reduceMul, Int.reduceNeg, Nat.reduceLT, Int.reduceToNat, Nat.reduceLeDiff, h9, h8]
            exact ⟨⟨i + 1, _, by omega, rfl, rfl, hI⟩, by omega⟩
          · simp (maxSteps := 1000000) (disch := (first | omega | (simp only [sizeR] <;> omega))) only [↓codeR, valR, memR, Nat.reduceEqDiff, Nat.reduceAdd, Nat.reduceSub, Nat.reduceMul, Int.reduceNeg, Nat.reduceLT, Int.reduceToNat, Nat.reduceLeDiff, h9, h8, cel hg2, tks_len, hx]
            refine call_by (free_any hI.sto) ?_
            rintro _ _ ⟨rfl, rfl⟩
            simp (maxSteps := 1000000) (disch := (first | omega | (simp only [sizeR] <;> omega))) only [↓codeR, valR, memR, Nat.reduceEqDiff, Nat.reduceAdd, Nat.reduceSub, Nat.reduceMul, Int.reduceNeg, Nat.reduceLT, Int.reduceToNat, Nat.reduceLeDiff, h9, h8]
            exact ⟨⟨i + 1, _, by omega, rfl, rfl, hI⟩, by omega⟩
    · simp (maxSteps := 1000000) (disch := (first | omega | (simp only [sizeR] <;> omega))) only [↓codeR, valR, memR, Nat.reduceEqDiff, Nat.reduceAdd, Nat.reduceSub, Nat.reduceMul, Int.reduceNeg, Nat.reduceLT, Int.reduceToNat, Nat.reduceLeDiff, h9]
      refine call_by (hend w' hI.keep) ?_
      rintro _ w3 ⟨rfl, k3⟩
      simp (maxSteps := 1000000) (disch := (first | omega | (simp only [sizeR] <;> omega))) only [↓codeR, valR, memR, Nat.reduceEqDiff, Nat.reduceAdd, Nat.reduceSub, Nat.reduceMul, Int.reduceNeg, Nat.reduceLT, Int.reduceToNat, Nat.reduceLeDiff]
      exact k3
theorem once_law' (n : Int) (a : Option Addr) (len cap : Nat) (zs : List Int) (w : World) (hn : (Lit.int .i64 n).wf = true) (hA : Arr w a len 1 (fun i => [.int .i64 (zs.getD i 0)]) ∧ len ≤ cap ∧ cap ≤ maxLen ∧ len ≤ zs.length ∧ ∀ n ∈ zs, (Lit.int .i64 n).wf = true) :
    callP Try.prog 3 [.int .i64 n, .slice a len cap] w fun v w' => v = .bool true ∧ Keep [] w w' := by
  obtain ⟨h1, h2, h3, h4, h5⟩ := hA
  refine once_law n a len cap zs w (wf_i64 hn) h1 (by unfold maxLen at h3; omega) (fun i hi => ?_)
  have : zs.getD i 0 = zs[i]'(by omega) := by simp [List.getD, List.getElem?_eq_getElem (show i < zs.length by omega)]
  rw [this]
  exact wf_i64 (h5 _ (List.getElem_mem _))
end Go.Proofs.Ytfiknjogkpbgdaa
