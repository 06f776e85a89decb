/- Words with blanks between, ahead and behind. Conditions: as each theorem says. -/
import Derived.Test.YtaenpaeigoeebaaSplHd
namespace Go.Proofs.Ytaenpaeigoeebaa
open E Go.Lib
set_option linter.unusedVariables false
set_option linter.unusedSimpArgs false
set_option maxHeartbeats 1000000
set_option maxRecDepth 20000

def blk3 : List UInt8 := [32, 9, 10]
def fl (t : List UInt8) : Fd := (t, List.replicate t.length false)
/-- What the text so far has made of it: all words are out, but for the last one. -/
def BI (s : SS) (want : List (List UInt8)) : Prop := (s.out = want.map fl ∧ s.now = none) ∨ ∃ ws w, want = ws ++ [w] ∧ s.out = ws.map fl ∧ s.now = some (fl w)
theorem bi_blank {s : SS} {want : List (List UInt8)} {c : UInt8} (hc : c ∈ blk3) (h : BI s want) : (s.sign blk3 c).out = want.map fl ∧ (s.sign blk3 c).now = none := by
  have hb : c = 32 ∨ c = 9 ∨ c = 10 := by simpa [blk3] using hc
  rcases h with ⟨h1, h2⟩ | ⟨ws, w, rfl, h1, h2⟩
  · rw [SS.sign_none hc hb (by rw [h2]; rfl)]; exact ⟨h1, h2⟩
  · rw [SS.sign_blank hc hb (by rw [h2]; rfl)]
    refine ⟨?_, rfl⟩
    show s.out ++ [s.cur] = _
    rw [h1, SS.cur, h2]; simp
theorem bi_blanks : ∀ (u : List UInt8) {s : SS} {want : List (List UInt8)}, u ≠ [] → (∀ c ∈ u, c ∈ blk3) → BI s want → (u.foldl (SS.sign blk3) s).out = want.map fl ∧ (u.foldl (SS.sign blk3) s).now = none
  | [], _, _, h, _, _ => absurd rfl h
  | [c], s, want, _, hc, h => bi_blank (hc c (by simp)) h
  | c :: d :: u, s, want, _, hc, h => by
    rw [List.foldl_cons]
    exact bi_blanks (d :: u) (by simp) (fun x hx => hc x (by simp at hx ⊢; exact .inr hx)) (.inl (bi_blank (hc c (by simp)) h))
theorem signs_word (ifs : List UInt8) : ∀ (t : List UInt8) (s : SS), (∀ c ∈ t, c ∉ ifs) → t.foldl (SS.sign ifs) s = if t = [] then s else s.add t false
  | [], s, _ => rfl
  | c :: t, s, h => by
    rw [List.foldl_cons, SS.sign_not (h c (by simp)), signs_word ifs t _ (fun d hd => h d (by simp [hd]))]
    have e : s.there.add [c] false = s.add [c] false := rfl
    rw [e]
    by_cases ht : t = []
    · subst ht; simp
    · rw [if_neg ht, if_neg (by simp), add_add]; rfl
theorem bi_word {s : SS} {want : List (List UInt8)} (t : List UInt8) (hb : ∀ c ∈ t, c ∉ blk3) (h1 : s.out = want.map fl) (h2 : s.now = none) : BI (t.foldl (SS.sign blk3) s) (if t = [] then want else want ++ [t]) := by
  rw [signs_word blk3 t s hb]
  by_cases ht : t = []
  · rw [if_pos ht, if_pos ht]; exact .inl ⟨h1, h2⟩
  · rw [if_neg ht, if_neg ht]
    refine .inr ⟨want, t, rfl, h1, ?_⟩
    simp [SS.add, SS.cur, h2, fl]
theorem bl_pure (t : List UInt8) (want : List (List UInt8)) (h1 : (t.foldl (SS.sign blk3) SS.zero).out = want.map fl) (h2 : (t.foldl (SS.sign blk3) SS.zero).now = none) : fieldsM [(t, false, true, false)] blk3 = want.map fl := by
  unfold fieldsM fieldsS
  simp only [List.foldl_cons, List.foldl_nil, SS.piece, Bool.false_eq_true, if_false, if_true]
  unfold SS.fin
  rw [h2]
  exact h1
section
variable {σ : AS}
theorem ints_at {v : Value} {l : List Int} (h : RepL σ.ld v l) : ∃ a cap, v = .slice a l.length cap ∧ l.length ≤ cap ∧ cap ≤ maxLen ∧ (l = [] ∨ ∃ b o, a = some ⟨b, o, none⟩ ∧ ∀ i (hi : i < l.length), inI64 l[i] ∧ ldc σ b (o + i) = some (.int .i64 l[i])) := by
  simp only [ldc, ← ld_ob]
  obtain ⟨b, o, cap, hv, h1, h2, hat⟩ := h.at
  rcases hv with rfl | ⟨rfl, a, rfl⟩
  · refine ⟨_, cap, rfl, h1, h2, .inr ⟨b, o, rfl, fun i hi => ?_⟩⟩
    obtain ⟨cs, hcs, _, hlds, hc⟩ := hat i hi
    obtain ⟨rfl, ht⟩ := hcs
    have := hc 0 _ rfl
    rw [show o + i * Rp.sz Int + 0 = o + i from by simp [Rp.sz]] at this
    exact ⟨ht, this⟩
  · exact ⟨a, cap, rfl, h1, h2, .inl rfl⟩
theorem blanks_walk {v0 v1 : Value} {l : List (List UInt8)} {gaps : List Int} (h0 : RepL σ.ld v0 l) (hg : RepL σ.ld v1 gaps) : kCall Try.prog 4 [v0, v1] σ fun v _ => v = .bool true := by
  obtain ⟨va, vc, rfl, _, _⟩ := strs_at h0
  obtain ⟨ga, gc, rfl, gcl, gcm, _⟩ := ints_at hg
  unfold maxLen at gcm
  refine f4 ?_
  by_cases hl : 10 < l.length
  · have hl' : (10 : Int) < l.length := by omega
    (try simp (maxSteps := 1000000) (dsimp := false) (disch := (first | omega | (simp only [okR]; done) | (simp only [sizeR] <;> omega) | fail)) only [↓preR, postR, ↓w_join, Nat.reduceEqDiff, Nat.reduceAdd, Nat.reduceSub, Nat.reduceMul, Int.reduceNeg, Nat.reduceLT, Int.reduceToNat, Nat.reduceLeDiff, Nat.sub_zero, F4])
    refine awake_ok fun σ' _ => ?_
    (try simp (maxSteps := 1000000) (dsimp := false) (disch := (first | omega | (simp only [okR]; done) | (simp only [sizeR] <;> omega) | fail)) only [↓preR, postR, ↓w_join, Nat.reduceEqDiff, Nat.reduceAdd, Nat.reduceSub, Nat.reduceMul, Int.reduceNeg, Nat.reduceLT, Int.reduceToNat, Nat.reduceLeDiff, Nat.sub_zero])
  have hl' : ¬ (10 : Int) < l.length := by omega
  (try simp (maxSteps := 1000000) (dsimp := false) (disch := (first | omega | (simp only [okR]; done) | (simp only [sizeR] <;> omega) | fail)) only [↓preR, postR, ↓w_join, Nat.reduceEqDiff, Nat.reduceAdd, Nat.reduceSub, Nat.reduceMul, Int.reduceNeg, Nat.reduceLT, Int.reduceToNat, Nat.reduceLeDiff, Nat.sub_zero, F4])
  refine loop_by (α := Nat × AS × List UInt8 × List (List UInt8) × Value) (fun x => [.string (bs x.2.2.1), x.2.2.2.2, .int .i64 x.1]) (fun x => x.2.1)
    (fun x => x.1 ≤ l.length ∧ OwnR x.2.1 (ownL x.2.2.2.2) x.2.2.2.2 x.2.2.2.1 ∧ (∀ g, g ∈ ownL x.2.2.2.2 → σ.n ≤ g) ∧ Chg [] σ x.2.1 ∧ x.2.2.1.length ≤ x.1 * 25 ∧ x.2.2.2.1.length ≤ x.1 ∧ BI (x.2.2.1.foldl (SS.sign blk3) SS.zero) x.2.2.2.1)
    (fun x => l.length + 1 - x.1) (0, σ, [], [], .slice none 0 0) ⟨by simp, OwnR.nil, by simp [ownL], Chg.refl _ _, by simp, by simp, .inl ⟨rfl, rfl⟩⟩ rfl rfl ?_
  rintro ⟨i, σ2, s, want, ov⟩ ⟨hi, ho, hge, k2, hsl, hwl, hbi⟩ again hag
  dsimp only at hi ho hge k2 hsl hwl hbi hag ⊢
  have gc64 : (gc : Int) ≤ 9223372036854775807 := by omega
  have hgn : (gaps.length : Int) ≤ 9223372036854775807 := by omega
  have hi10 : (i : Int) ≤ 10 := by omega
  -- what comes when it is known how many blanks there are
  (try simp (maxSteps := 1000000) (dsimp := false) (disch := (first | omega | (simp only [okR]; done) | (simp only [sizeR] <;> omega) | fail)) only [↓preR, postR, ↓w_stop, Nat.reduceEqDiff, Nat.reduceAdd, Nat.reduceSub, Nat.reduceMul, Int.reduceNeg, Nat.reduceLT, Int.reduceToNat, Nat.reduceLeDiff, Nat.sub_zero])
  refine join_now ?_
  (try simp (maxSteps := 1000000) (dsimp := false) (disch := (first | omega | (simp only [okR]; done) | (simp only [sizeR] <;> omega) | fail)) only [↓preR, postR, ↓w_stop, Nat.reduceEqDiff, Nat.reduceAdd, Nat.reduceSub, Nat.reduceMul, Int.reduceNeg, Nat.reduceLT, Int.reduceToNat, Nat.reduceLeDiff, Nat.sub_zero])
  refine join_now ?_
  (try simp (maxSteps := 1000000) (dsimp := false) (disch := (first | omega | (simp only [okR]; done) | (simp only [sizeR] <;> omega) | fail)) only [↓preR, postR, ↓w_stop, Nat.reduceEqDiff, Nat.reduceAdd, Nat.reduceSub, Nat.reduceMul, Int.reduceNeg, Nat.reduceLT, Int.reduceToNat, Nat.reduceLeDiff, Nat.sub_zero])
  refine join_by fun J11 hJ11 => ?_
  have hn : ∀ n : Nat, 1 ≤ n → n ≤ 5 → J11 [.int .i64 n] σ2 := by
    intro n n1 n5
    refine hJ11 _ _ ?_
    clear hJ11
    have hn64 : (n : Int) ≤ 5 := by omega
    (try simp (maxSteps := 1000000) (dsimp := false) (disch := (first | omega | (simp only [okR]; done) | (simp only [sizeR] <;> omega) | fail)) only [↓preR, postR, ↓w_join, Nat.reduceEqDiff, Nat.reduceAdd, Nat.reduceSub, Nat.reduceMul, Int.reduceNeg, Nat.reduceLT, Int.reduceToNat, Nat.reduceLeDiff, Nat.sub_zero])
    refine loop_by (α := List UInt8) (fun u => [.string (bs (s ++ u)), .int .i64 u.length]) (fun _ => σ2) (fun u => u.length ≤ n ∧ ∀ c ∈ u, c ∈ blk3) (fun u => n - u.length) [] ⟨by simp, by simp⟩ (by simp) rfl ?_
    intro u ⟨hu, hub⟩ again3 hag3
    dsimp only at hu hub hag3 ⊢
    by_cases hun : u.length < n
    · have step : ∀ c, c ∈ blk3 → again3 [.string (bs (s ++ u ++ [c])), .int .i64 ((u.length : Int) + 1)] σ2 := by
        intro c hc
        have := hag3 (u ++ [c]) ⟨by simp; omega, by
          intro d hd
          simp only [List.mem_append, List.mem_singleton] at hd
          rcases hd with hd | rfl
          · exact hub d hd
          · exact hc⟩ (by simp; omega)
        simpa [List.append_assoc] using this
      have hr : ((i : Int) + u.length) % 3 = 0 ∨ ((i : Int) + u.length) % 3 = 1 ∨ ((i : Int) + u.length) % 3 = 2 := by omega
      rcases hr with hr | hr | hr
      · (try simp (maxSteps := 1000000) (dsimp := false) (disch := (first | omega | (simp only [okR]; done) | (simp only [sizeR] <;> omega) | fail)) only [↓preR, postR, ↓w_join, Nat.reduceEqDiff, Nat.reduceAdd, Nat.reduceSub, Nat.reduceMul, Int.reduceNeg, Nat.reduceLT, Int.reduceToNat, Nat.reduceLeDiff, Nat.sub_zero, hr])
        exact step 32 (by decide)
      · (try simp (maxSteps := 1000000) (dsimp := false) (disch := (first | omega | (simp only [okR]; done) | (simp only [sizeR] <;> omega) | fail)) only [↓preR, postR, ↓w_join, Nat.reduceEqDiff, Nat.reduceAdd, Nat.reduceSub, Nat.reduceMul, Int.reduceNeg, Nat.reduceLT, Int.reduceToNat, Nat.reduceLeDiff, Nat.sub_zero, hr])
        exact step 9 (by decide)
      · (try simp (maxSteps := 1000000) (dsimp := false) (disch := (first | omega | (simp only [okR]; done) | (simp only [sizeR] <;> omega) | fail)) only [↓preR, postR, ↓w_join, Nat.reduceEqDiff, Nat.reduceAdd, Nat.reduceSub, Nat.reduceMul, Int.reduceNeg, Nat.reduceLT, Int.reduceToNat, Nat.reduceLeDiff, Nat.sub_zero, hr])
        exact step 10 (by decide)
    · have hun' : u.length = n := by omega
      have hfold := bi_blanks u (by intro h; subst h; simp at hun'; omega) hub hbi
      rw [← List.foldl_append] at hfold
      have hsu : (s ++ u).length ≤ i * 25 + 5 := by simp; omega
      clear hag3
      generalize s ++ u = su at hfold hsu
      by_cases hil : i = l.length
      · subst hil
        obtain ⟨x, cp, rfl, _⟩ := ho.val
        (simp (maxSteps := 1000000) (dsimp := false) (disch := (first | omega | (simp only [okR]; done) | (simp only [sizeR] <;> omega) | fail)) only [↓preR, postR, ↓w_join, Nat.reduceEqDiff, Nat.reduceAdd, Nat.reduceSub, Nat.reduceMul, Int.reduceNeg, Nat.reduceLT, Int.reduceToNat, Nat.reduceLeDiff, Nat.sub_zero])
        refine fields_e (l := [(su, false, true, false)]) (lit_rep new_eq_ (RpL.one (pc_lit _ _ _ _ (by omega))) rfl (small _ (by decide))) (by simp [many]; omega) ?_
        rw [show ([32, 9, 10] : List UInt8) = blk3 from rfl, bl_pure su want hfold.1 hfold.2]
        intro σ3 v3 r3 c3
        have k3 : Chg [] σ2 σ3 := ((Chg.refl _ _).new _).step c3 (by simp)
        obtain ⟨a1, cp1, rfl, _, x1⟩ := flds_at r3
        have hm : (want.map fl).length = want.length := by simp
        have hwl' : (want.length : Int) ≤ 10 := by omega
        (simp (maxSteps := 1000000) (dsimp := false) (disch := (first | omega | (simp only [okR]; done) | (simp only [sizeR] <;> omega) | fail)) only [↓preR, postR, ↓w_join, Nat.reduceEqDiff, Nat.reduceAdd, Nat.reduceSub, Nat.reduceMul, Int.reduceNeg, Nat.reduceLT, Int.reduceToNat, Nat.reduceLeDiff, Nat.sub_zero, hm])
        refine loop_by (α := Nat) (fun i => [.int .i64 i]) (fun _ => σ3) (fun i => i ≤ want.length) (fun i => want.length - i) 0 (by omega) rfl rfl ?_
        intro j hj again4 hag4
        dsimp only at hj hag4 ⊢
        by_cases hlt : j < want.length
        · obtain ⟨_, _, e0, _, x0⟩ := strs_at (RepL.mono k3.le ho.rep)
          injection e0 with e0 _ _
          subst e0
          rcases x0 with h | ⟨b0, o0, rfl, x0⟩
          · rw [h] at hlt; simp at hlt
          rcases x1 with h | ⟨b1, o1, rfl, x1⟩
          · rw [List.map_eq_nil_iff] at h; rw [h] at hlt; simp at hlt
          obtain ⟨_, y0⟩ := x0 j hlt
          obtain ⟨w, _, _, _, y1, _⟩ := x1 j (by rw [hm]; exact hlt)
          rw [List.getElem_map] at y1
          simp only [ldc, fl] at y0 y1
          (try simp (maxSteps := 1000000) (dsimp := false) (disch := (first | omega | (simp only [okR]; done) | (simp only [sizeR] <;> omega) | fail)) only [↓preR, postR, ↓w_join, Nat.reduceEqDiff, Nat.reduceAdd, Nat.reduceSub, Nat.reduceMul, Int.reduceNeg, Nat.reduceLT, Int.reduceToNat, Nat.reduceLeDiff, Nat.sub_zero, y0, y1, hm])
          exact hag4 (j + 1) (by omega) (by omega)
        · obtain rfl : j = want.length := by omega
          (simp (maxSteps := 1000000) (dsimp := false) (disch := (first | omega | (simp only [okR]; done) | (simp only [sizeR] <;> omega) | fail)) only [↓preR, postR, ↓w_join, Nat.reduceEqDiff, Nat.reduceAdd, Nat.reduceSub, Nat.reduceMul, Int.reduceNeg, Nat.reduceLT, Int.reduceToNat, Nat.reduceLeDiff, Nat.sub_zero])
          refine awake_ok fun σ' _ => ?_
          (try simp (maxSteps := 1000000) (dsimp := false) (disch := (first | omega | (simp only [okR]; done) | (simp only [sizeR] <;> omega) | fail)) only [↓preR, postR, ↓w_join, Nat.reduceEqDiff, Nat.reduceAdd, Nat.reduceSub, Nat.reduceMul, Int.reduceNeg, Nat.reduceLT, Int.reduceToNat, Nat.reduceLeDiff, Nat.sub_zero])
      · have hlt : i < l.length := by omega
        have hil' : ¬ (i : Int) = l.length := by omega
        obtain ⟨_, _, e0, _, x0⟩ := strs_at (RepL.mono k2.le h0)
        injection e0 with e0 _ _
        subst e0
        rcases x0 with h | ⟨b, o, rfl, x0⟩
        · rw [h] at hlt; simp at hlt
        obtain ⟨ht, y0⟩ := x0 i hlt
        generalize l[i] = t at ht y0
        rw [ldc] at y0
        by_cases h20 : 20 < t.length
        · have h20' : (20 : Int) < t.length := by omega
          (try simp (maxSteps := 1000000) (dsimp := false) (disch := (first | omega | (simp only [okR]; done) | (simp only [sizeR] <;> omega) | fail)) only [↓preR, postR, ↓w_join, Nat.reduceEqDiff, Nat.reduceAdd, Nat.reduceSub, Nat.reduceMul, Int.reduceNeg, Nat.reduceLT, Int.reduceToNat, Nat.reduceLeDiff, Nat.sub_zero, y0])
          refine awake_ok fun σ' _ => ?_
          (try simp (maxSteps := 1000000) (dsimp := false) (disch := (first | omega | (simp only [okR]; done) | (simp only [sizeR] <;> omega) | fail)) only [↓preR, postR, ↓w_join, Nat.reduceEqDiff, Nat.reduceAdd, Nat.reduceSub, Nat.reduceMul, Int.reduceNeg, Nat.reduceLT, Int.reduceToNat, Nat.reduceLeDiff, Nat.sub_zero])
        have h20' : ¬ (20 : Int) < t.length := by omega
        (simp (maxSteps := 1000000) (dsimp := false) (disch := (first | omega | (simp only [okR]; done) | (simp only [sizeR] <;> omega) | fail)) only [↓preR, postR, ↓w_join, Nat.reduceEqDiff, Nat.reduceAdd, Nat.reduceSub, Nat.reduceMul, Int.reduceNeg, Nat.reduceLT, Int.reduceToNat, Nat.reduceLeDiff, Nat.sub_zero, y0])
        refine loop_by (α := Nat) (fun j => [.int .i64 j]) (fun _ => σ2) (fun j => j ≤ t.length ∧ ∀ c ∈ t.take j, c ∉ blk3) (fun j => t.length - j) 0 ⟨by omega, by simp⟩ rfl rfl ?_
        intro j ⟨hj, hcs⟩ again5 hag5
        dsimp only at hj hcs hag5 ⊢
        by_cases hjt : j < t.length
        · have hgc : t[j]?.getD 0 = t[j] := by rw [List.getElem?_eq_getElem hjt]; rfl
          (simp (maxSteps := 1000000) (dsimp := false) (disch := (first | omega | (simp only [okR]; done) | (simp only [sizeR] <;> omega) | fail)) only [↓preR, postR, ↓w_join, Nat.reduceEqDiff, Nat.reduceAdd, Nat.reduceSub, Nat.reduceMul, Int.reduceNeg, Nat.reduceLT, Int.reduceToNat, Nat.reduceLeDiff, Nat.sub_zero, y0, hgc])
          refine within_c (s := blk3) (by decide) ?_
          by_cases hin : t[j] ∈ blk3
          · rw [decide_eq_true hin]
            (try simp (maxSteps := 1000000) (dsimp := false) (disch := (first | omega | (simp only [okR]; done) | (simp only [sizeR] <;> omega) | fail)) only [↓preR, postR, ↓w_join, Nat.reduceEqDiff, Nat.reduceAdd, Nat.reduceSub, Nat.reduceMul, Int.reduceNeg, Nat.reduceLT, Int.reduceToNat, Nat.reduceLeDiff, Nat.sub_zero])
            refine awake_ok fun σ' _ => ?_
            (try simp (maxSteps := 1000000) (dsimp := false) (disch := (first | omega | (simp only [okR]; done) | (simp only [sizeR] <;> omega) | fail)) only [↓preR, postR, ↓w_join, Nat.reduceEqDiff, Nat.reduceAdd, Nat.reduceSub, Nat.reduceMul, Int.reduceNeg, Nat.reduceLT, Int.reduceToNat, Nat.reduceLeDiff, Nat.sub_zero])
          · rw [decide_eq_false hin]
            (try simp (maxSteps := 1000000) (dsimp := false) (disch := (first | omega | (simp only [okR]; done) | (simp only [sizeR] <;> omega) | fail)) only [↓preR, postR, ↓w_join, Nat.reduceEqDiff, Nat.reduceAdd, Nat.reduceSub, Nat.reduceMul, Int.reduceNeg, Nat.reduceLT, Int.reduceToNat, Nat.reduceLeDiff, Nat.sub_zero])
            refine hag5 (j + 1) ⟨by omega, ?_⟩ (by omega)
            rw [List.take_succ_eq_append_getElem hjt]
            intro c hc
            simp only [List.mem_append, List.mem_singleton] at hc
            rcases hc with hc | rfl
            · exact hcs c hc
            · exact hin
        · obtain rfl : j = t.length := by omega
          rw [List.take_length] at hcs
          have hbi' := bi_word t hcs hfold.1 hfold.2
          rw [← List.foldl_append] at hbi'
          by_cases htn : t = []
          · subst htn
            rw [if_pos rfl] at hbi'
            (try simp (maxSteps := 1000000) (dsimp := false) (disch := (first | omega | (simp only [okR]; done) | (simp only [sizeR] <;> omega) | fail)) only [↓preR, postR, ↓w_join, Nat.reduceEqDiff, Nat.reduceAdd, Nat.reduceSub, Nat.reduceMul, Int.reduceNeg, Nat.reduceLT, Int.reduceToNat, Nat.reduceLeDiff, Nat.sub_zero, y0])
            have := hag (i + 1, σ2, su ++ [], want, ov) ⟨by omega, ho, hge, k2, by simp; omega, by dsimp only; omega, hbi'⟩ (by simp; omega)
            simpa using this
          · rw [if_neg htn] at hbi'
            (simp (maxSteps := 1000000) (dsimp := false) (disch := (first | omega | (simp only [okR]; done) | (simp only [sizeR] <;> omega) | fail)) only [↓preR, postR, ↓w_join, Nat.reduceEqDiff, Nat.reduceAdd, Nat.reduceSub, Nat.reduceMul, Int.reduceNeg, Nat.reduceLT, Int.reduceToNat, Nat.reduceLeDiff, Nat.sub_zero, y0, decF htn])
            generalize hz : σ2.new _ = σ3
            have k3 : Chg [] σ2 σ3 := by rw [← hz]; exact (Chg.refl _ _).new _
            have m3 : σ3.m σ2.n = some (.cells [.string (bs t)]) := by rw [← hz]; exact new_eq_
            have n3 : σ3.n = σ2.n + 1 := by rw [← hz]; rfl
            have o3 : OwnR σ3 (σ3.n :: ownL ov) ov want := (ho.chg k3 (fun _ _ => by simp) (fun _ h => by simp at h)).more (fun g hg => by
              simp at hg
              rcases hg with rfl | hg
              · exact .inr (Nat.le_refl _)
              · exact .inl hg)
            refine appR_by (α := Str) Try.underlying38 (by kernel_rfl : infB Try.prog 9 1 16 = true) o3 (fun g hg => by simp [hg]) (m := 1) (ms := [t]) (news := [.string (bs t)]) ?_ (RpL.one ⟨rfl, small _ (by omega)⟩) rfl (by omega) (by unfold maxLen; omega) ?_
            · rw [ldsM m3 _ 0 (by simp [Rp.sz])]; rfl
            intro v' σ4 o4 c4 g4
            have k4 : Chg [] σ σ4 := (k2.step k3 (by simp)).step c4 (fun g hg => .inr (hge g hg))
            (try simp (maxSteps := 1000000) (dsimp := false) (disch := (first | omega | (simp only [okR]; done) | (simp only [sizeR] <;> omega) | fail)) only [↓preR, postR, ↓w_join, Nat.reduceEqDiff, Nat.reduceAdd, Nat.reduceSub, Nat.reduceMul, Int.reduceNeg, Nat.reduceLT, Int.reduceToNat, Nat.reduceLeDiff, Nat.sub_zero])
            have := hag (i + 1, σ4, su ++ t, want ++ [t], v') ⟨by omega, ?_, ?_, k4, by simp; omega, by simp; omega, hbi'⟩ (by simp; omega)
            · simpa using this
            · exact o4.more (fun g hg => .inl (by
                rcases g4 g hg with h | h
                · simp [h]
                · simp [h]))
            · intro g hg
              have := k2.n
              rcases g4 g hg with h | h
              · exact hge g h
              · omega
  clear hJ11
  by_cases hig : i < gaps.length
  · obtain ⟨_, _, e0, _, _, x0⟩ := ints_at (RepL.mono k2.le hg)
    injection e0 with e0 _ _
    subst e0
    rcases x0 with h | ⟨b, o, rfl, x0⟩
    · rw [h] at hig; simp at hig
    obtain ⟨_, y0⟩ := x0 i hig
    generalize gaps[i] = g at y0
    rw [ldc] at y0
    have t1 : -5 < g.tmod 5 := by
      rw [Int.tmod_eq_emod]
      split <;> omega
    have t2 : g.tmod 5 < 5 := Int.tmod_lt_of_pos g (by decide)
    (try simp (maxSteps := 1000000) (dsimp := false) (disch := (first | omega | (simp only [okR]; done) | (simp only [sizeR] <;> omega) | fail)) only [↓preR, postR, ↓w_join, Nat.reduceEqDiff, Nat.reduceAdd, Nat.reduceSub, Nat.reduceMul, Int.reduceNeg, Nat.reduceLT, Int.reduceToNat, Nat.reduceLeDiff, Nat.sub_zero, y0])
    generalize g.tmod 5 = r at t1 t2 ⊢
    have := hn (1 + (r + 5) % 5).toNat (by omega) (by omega)
    rw [show (((1 + (r + 5) % 5).toNat : Nat) : Int) = 1 + (r + 5) % 5 from by omega] at this
    exact this
  · (try simp (maxSteps := 1000000) (dsimp := false) (disch := (first | omega | (simp only [okR]; done) | (simp only [sizeR] <;> omega) | fail)) only [↓preR, postR, ↓w_join, Nat.reduceEqDiff, Nat.reduceAdd, Nat.reduceSub, Nat.reduceMul, Int.reduceNeg, Nat.reduceLT, Int.reduceToNat, Nat.reduceLeDiff, Nat.sub_zero])
    exact hn 1 (by omega) (by omega)
theorem blanks_law {v0 v1 : Value} (A0 : OV σ.c (shOf Try.prog 8 38) v0) (A1 : OV σ.c (shOf Try.prog 8 39) v1) :
    kCall Try.prog 4 [v0, v1] σ fun v _ => v = .bool true := by
  obtain ⟨l, hl⟩ := strs_arg A0
  rw [show shOf Try.prog 8 39 = .slice (.int .i64) 1 from by kernel_rfl] at A1
  obtain ⟨g, hg⟩ := arg_list (α := Int) A1
  exact blanks_walk (hl.mono c_le_ld) (hg.mono c_le_ld)
end
end Go.Proofs.Ytaenpaeigoeebaa
