/- Of all bytes just those of ifs in what may be split are left out: the walk. Conditions: as each theorem says. -/
import Derived.Test.YtaenpaeigoeebaaSplKp
namespace Go.Proofs.Ytaenpaeigoeebaa
open E Go.Lib
set_option linter.unusedVariables false
set_option linter.unusedSimpArgs false
set_option maxHeartbeats 1000000
set_option maxRecDepth 20000

section
variable {σ σ' : AS} {k : Value → AS → Prop}
/-- Block W holds a field of the walk's own, all of its blocks are F. -/
def WI (σ0 σ : AS) (W : Nat) (F : List Nat) (f : Fd) : Prop :=
  ∃ v, F = W :: ownL v ∧ σ.m W = some (.cells [.string (bs f.1), v]) ∧ OwnV σ v f.2.length 1 (bl f.2) ∧ W ∉ ownL v ∧ (∀ g, g ∈ F → σ0.n ≤ g)
variable {σ0 : AS} {W : Nat} {F S : List Nat} {f : Fd}
theorem WI.below (h : WI σ0 σ W F f) : ∀ g, g ∈ F → g < σ.n := by
  obtain ⟨v, rfl, h1, h2, _⟩ := h
  intro g hg
  simp only [List.mem_cons] at hg
  rcases hg with rfl | hg
  · exact σ.lt h1
  · exact h2.lt hg
theorem WI.chg (h : WI σ0 σ W F f) (c : Chg S σ σ') (hS : ∀ g, g ∈ F → g ∉ S) : WI σ0 σ' W F f := by
  obtain ⟨v, rfl, h1, h2, h3, h4⟩ := h
  exact ⟨v, rfl, (c.m W (σ.lt h1) (hS W (by simp))).trans h1, h2.chg c (fun g hg => hS g (by simp [hg])), h3, h4⟩
theorem WI.new {W : Nat} (hW : W = σ.n) (h0 : σ0.n ≤ σ.n) : WI σ0 (σ.new (.cells [.string (bs []), .slice none 0 0])) W [W] ([], []) := by
  subst hW
  exact ⟨_, rfl, new_eq_, OwnV.nil _ _, by simp [ownL], by simpa using h0⟩
theorem WI.rep (h : WI σ0 σ W F f) : ∃ v, ldc σ W 0 = some (.string (bs f.1)) ∧ ldc σ W 1 = some v ∧ RepL σ.ld v f.2 := by
  obtain ⟨v, rfl, h1, h2, h3, h4⟩ := h
  refine ⟨v, ?_, ?_, OwnV.rep h2 rfl (rpl_bool σ.ld _) (Ce.le_refl _)⟩
  · rw [ldc, ← ld_ob, ld_m h1]; rfl
  · rw [ldc, ← ld_ob, ld_m h1]; rfl
/-- Bytes and marks are laid behind: what the stores leave. -/
theorem WI.step {v v' : Value} {t : List UInt8} {q : List Bool} {σ2 σ3 : AS} (h1 : σ.m W = some (.cells [.string (bs f.1), v])) (h2 : OwnV σ v f.2.length 1 (bl f.2)) (h3 : W ∉ ownL v) (h4 : ∀ g, g ∈ W :: ownL v → σ0.n ≤ g)
    (c2 : Chg [W] σ σ2) (m2 : σ2.m W = some (.cells [.string (bs t), v])) (ho : OwnV σ3 v' q.length 1 (bl q)) (c3 : Chg (ownL v) σ2 σ3) (hg : ∀ g, g ∈ ownL v' → g ∈ ownL v ∨ g = σ2.n) (h0 : σ0.n ≤ σ.n) :
    WI σ0 (σ3.put W (.cells [.string (bs t), v'])) W (W :: ownL v') (t, q) ∧ Chg (W :: ownL v) σ (σ3.put W (.cells [.string (bs t), v'])) ∧ (∀ g, g ∈ W :: ownL v' → g ∈ W :: ownL v ∨ σ.n ≤ g) := by
  have n2 := c2.n
  have hw := σ.lt h1
  have m3 := (c3.m W (by omega) h3).trans m2
  have hW' : W ∉ ownL v' := fun h => by
    rcases hg W h with h | h
    · exact h3 h
    · omega
  refine ⟨⟨v', rfl, by rw [put_eq, m3]; rfl, ho.chg ((Chg.refl [W] σ3).put (g := W) (.inl (by simp)) _) (fun g hg => by simp; rintro rfl; exact hW' hg), hW', fun g hg' => ?_⟩, ((c2.wide (by simp)).step c3 (fun g hg => .inl (by simp [hg]))).put (.inl (by simp)) _, fun g hg' => ?_⟩
  · simp only [List.mem_cons] at hg'
    rcases hg' with rfl | h
    · exact h4 _ (by simp)
    · rcases hg g h with h | h
      · exact h4 g (by simp [h])
      · omega
  · simp only [List.mem_cons] at hg' ⊢
    rcases hg' with rfl | h
    · exact .inl (.inl rfl)
    · rcases hg g h with h | h
      · exact .inl (.inr h)
      · exact .inr (by omega)
theorem fd_rp {c : Ce} {f : Fd} {v : Value} (h : f.1.length ≤ maxLen) (hv : RepL c v f.2) : Rp.rp (α := Fld) c f [.string (bs f.1), v] := ⟨[.string (bs f.1)], [v], rfl, ⟨rfl, h⟩, ⟨v, rfl, hv⟩⟩
theorem keeps_walk {v0 : Value} {l : List Pc} {ifs : List UInt8} (h0 : RepL (α := Pc) σ.ld v0 l) :
    kCall Try.prog 3 [v0, .string (bs ifs)] σ fun v _ => v = .bool true := by
  obtain ⟨va, vc, rfl, _, _⟩ := pcs_at h0
  refine f3 ?_
  (try simp (maxSteps := 1000000) (dsimp := false) (disch := (first | omega | (simp only [okR]; done) | (simp only [sizeR] <;> omega) | fail)) only [↓preR, postR, ↓w_join, Nat.reduceEqDiff, Nat.reduceAdd, Nat.reduceSub, Nat.reduceMul, Int.reduceNeg, Nat.reduceLT, Int.reduceToNat, Nat.reduceLeDiff, Nat.sub_zero, F3])
  refine few_c h0 ?_
  cases hfew : fewB l
  · (try simp (maxSteps := 1000000) (dsimp := false) (disch := (first | omega | (simp only [okR]; done) | (simp only [sizeR] <;> omega) | fail)) only [↓preR, postR, ↓w_join, Nat.reduceEqDiff, Nat.reduceAdd, Nat.reduceSub, Nat.reduceMul, Int.reduceNeg, Nat.reduceLT, Int.reduceToNat, Nat.reduceLeDiff, Nat.sub_zero])
    refine awake_ok fun σ' _ => ?_
    (try simp (maxSteps := 1000000) (dsimp := false) (disch := (first | omega | (simp only [okR]; done) | (simp only [sizeR] <;> omega) | fail)) only [↓preR, postR, ↓w_join, Nat.reduceEqDiff, Nat.reduceAdd, Nat.reduceSub, Nat.reduceMul, Int.reduceNeg, Nat.reduceLT, Int.reduceToNat, Nat.reduceLeDiff, Nat.sub_zero])
  by_cases hifs : 100 < ifs.length
  · have h100 : (100 : Int) < ifs.length := by omega
    (try simp (maxSteps := 1000000) (dsimp := false) (disch := (first | omega | (simp only [okR]; done) | (simp only [sizeR] <;> omega) | fail)) only [↓preR, postR, ↓w_join, Nat.reduceEqDiff, Nat.reduceAdd, Nat.reduceSub, Nat.reduceMul, Int.reduceNeg, Nat.reduceLT, Int.reduceToNat, Nat.reduceLeDiff, Nat.sub_zero])
    refine awake_ok fun σ' _ => ?_
    (try simp (maxSteps := 1000000) (dsimp := false) (disch := (first | omega | (simp only [okR]; done) | (simp only [sizeR] <;> omega) | fail)) only [↓preR, postR, ↓w_join, Nat.reduceEqDiff, Nat.reduceAdd, Nat.reduceSub, Nat.reduceMul, Int.reduceNeg, Nat.reduceLT, Int.reduceToNat, Nat.reduceLeDiff, Nat.sub_zero])
  have h100 : ¬ (100 : Int) < ifs.length := by omega
  have hmany := few_many hfew
  have hlen := len_many l
  have hl64 : (l.length : Int) ≤ 3030 := by omega
  (try simp (maxSteps := 1000000) (dsimp := false) (disch := (first | omega | (simp only [okR]; done) | (simp only [sizeR] <;> omega) | fail)) only [↓preR, postR, ↓w_join, Nat.reduceEqDiff, Nat.reduceAdd, Nat.reduceSub, Nat.reduceMul, Int.reduceNeg, Nat.reduceLT, Int.reduceToNat, Nat.reduceLeDiff, Nat.sub_zero])
  generalize hz : σ.new _ = σa
  have ka : Chg [] σ σa := by rw [← hz]; exact (Chg.refl _ _).new _
  have wa : WI σ σa σ.n [σ.n] ([], []) := by rw [← hz]; exact WI.new rfl (Nat.le_refl _)
  have na : σ.n < σa.n := by rw [← hz, new_n]; omega
  refine loop_by (α := Nat × AS × List Nat) (fun x => [.int .i64 x.1]) (fun x => x.2.1) (fun x => x.1 ≤ l.length ∧ WI σ x.2.1 σ.n x.2.2 (wantM ifs (l.take x.1)) ∧ Chg [] σ x.2.1) (fun x => l.length - x.1) (0, σa, [σ.n]) ⟨by simp, wa, ka⟩ rfl rfl ?_
  rintro ⟨i, σ2, F2⟩ ⟨hi, w2, k2⟩ again hag
  dsimp only at hi w2 k2 hag ⊢
  by_cases hlt : i < l.length
  · have mg := many_get l i hlt
    have mt := many_take l i
    have wl := want_len ifs (l.take i)
    obtain ⟨_, _, e1, _, x1⟩ := pcs_at (RepL.mono k2.le h0)
    injection e1 with e1 _ _
    subst e1
    rcases x1 with rfl | ⟨b, o, rfl, x1⟩
    · simp at hlt
    obtain ⟨ht, _, y0, y1, y2, y3⟩ := x1 i hlt
    have nxt : ∀ σ' F', WI σ σ' σ.n F' (join2 (wantM ifs (l.take i)) (keepP ifs l[i])) → Chg [] σ σ' → again [.int .i64 ((i : Int) + 1)] σ' := by
      intro σ' F' h1 h2
      have := hag (i + 1, σ', F') ⟨by omega, by
        dsimp only
        have e : wantM ifs (l.take (i + 1)) = join2 (wantM ifs (l.take i)) (keepP ifs l[i]) := by
          rw [List.take_succ_eq_append_getElem hlt]
          unfold wantM
          rw [List.map_append, cat_app]
          congr 1
          exact cat_one _
        rw [e]; exact h1, h2⟩ (by simp; omega)
      simpa using this
    generalize l[i] = pc at ht y0 y1 y2 y3 mg nxt
    generalize wantM ifs (l.take i) = f at w2 wl nxt
    obtain ⟨t, q, sp, br⟩ := pc
    dsimp only [ldc] at ht y0 y1 y2 y3 mg
    (simp (maxSteps := 1000000) (dsimp := false) (disch := (first | omega | (simp only [okR]; done) | (simp only [sizeR] <;> omega) | fail)) only [↓preR, postR, ↓w_join, Nat.reduceEqDiff, Nat.reduceAdd, Nat.reduceSub, Nat.reduceMul, Int.reduceNeg, Nat.reduceLT, Int.reduceToNat, Nat.reduceLeDiff, Nat.sub_zero, y0, y1, y2, y3])
    generalize hz2 : AS.put _ σ2.n _ = σ3
    have c3 : Chg [] σ2 σ3 := by rw [← hz2]; exact ((Chg.refl _ σ2).new _).put (.inr (by omega)) _
    have hE : σ3.m σ2.n = some (.cells [.string (bs t), .bool q, .bool sp, .bool br]) := by rw [← hz2]; (try simp (maxSteps := 1000000) (dsimp := false) (disch := (first | omega | (simp only [okR]; done) | (simp only [sizeR] <;> omega) | fail)) only [↓preR, postR, ↓w_join, Nat.reduceEqDiff, Nat.reduceAdd, Nat.reduceSub, Nat.reduceMul, Int.reduceNeg, Nat.reduceLT, Int.reduceToNat, Nat.reduceLeDiff, Nat.sub_zero])
    have w3 := w2.chg c3 (fun _ _ => by simp)
    have k3 : Chg [] σ σ3 := k2.step c3 (by simp)
    have heF : σ2.n ∉ F2 := fun h => Nat.lt_irrefl _ (w2.below _ h)
    clear hz2 c3 w2 k2 y0 y1 y2 y3
    generalize σ2.n = e at hE heF ⊢
    have pv : ∀ j, ((t.take j).filter fun c => q || !sp || !decide (c ∈ ifs)).length ≤ j := fun j => Nat.le_trans (List.length_filter_le _ _) (by simp; omega)
    refine loop_by (α := Nat × AS × List Nat) (fun x => [.int .i64 x.1]) (fun x => x.2.1) (fun x => x.1 ≤ t.length ∧ WI σ x.2.1 σ.n x.2.2 (join2 f (keepP ifs (t.take x.1, q, sp, br))) ∧ Chg [] σ x.2.1 ∧ x.2.1.m e = some (.cells [.string (bs t), .bool q, .bool sp, .bool br]) ∧ e ∉ x.2.2) (fun x => t.length - x.1) (0, σ3, F2) ⟨by simp, ?_, k3, hE, heF⟩ rfl rfl ?_
    · have : keepP ifs (t.take 0, q, sp, br) = ([], []) := by
        unfold keepP keepT; cases br <;> simp
      dsimp only
      rw [this, join_nil]; exact w3
    rintro ⟨j, σ4, F4⟩ ⟨hj, w4, k4, hE4, he4⟩ again2 hag2
    dsimp only at hj w4 k4 hE4 he4 hag2 ⊢
    have ht64 : (t.length : Int) ≤ 3030 := by omega
    by_cases hjt : j < t.length
    · cases br
      rotate_left
      · (try simp (maxSteps := 1000000) (dsimp := false) (disch := (first | omega | (simp only [okR]; done) | (simp only [sizeR] <;> omega) | fail)) only [↓preR, postR, ↓w_join, Nat.reduceEqDiff, Nat.reduceAdd, Nat.reduceSub, Nat.reduceMul, Int.reduceNeg, Nat.reduceLT, Int.reduceToNat, Nat.reduceLeDiff, Nat.sub_zero, hE4])
        refine nxt σ4 F4 ?_ k4
        have e1 : keepP ifs (t.take j, q, sp, true) = keepP ifs (t, q, sp, true) := by unfold keepP keepT; simp
        rw [← e1]; exact w4
      have hgc : t[j]?.getD 0 = t[j] := by rw [List.getElem?_eq_getElem hjt]; rfl
      have hsub : (t.drop j).take 1 = [t[j]] := by rw [List.drop_eq_getElem_cons hjt]; rfl
      have jb : j + 1 - j = 1 := by omega
      have kn : keepP ifs (t.take (j + 1), q, sp, false) = join2 (keepP ifs (t.take j, q, sp, false)) (if (q || !sp || !decide (t[j] ∈ ifs)) then ([t[j]], [q]) else ([], [])) := by
        rw [List.take_succ_eq_append_getElem hjt]
        unfold keepP keepT join2
        simp only [Bool.false_eq_true, if_false, List.filter_append, List.length_append]
        by_cases h : (q || !sp || !decide (t[j] ∈ ifs)) = true
        · rw [if_pos h]
          simp only [List.filter_cons, h, if_true, List.filter_nil, List.length_singleton]
          rw [← List.replicate_append_replicate]; rfl
        · rw [if_neg h]
          simp only [List.filter_cons, h, if_false, List.filter_nil, Bool.false_eq_true, List.length_nil, Nat.add_zero, List.append_nil]
      have skip : (q || !sp || !decide (t[j] ∈ ifs)) = false → again2 [.int .i64 ((j : Int) + 1)] σ4 := by
        intro h
        have := hag2 (j + 1, σ4, F4) ⟨by omega, by
          dsimp only
          rw [kn, h]
          simp only [Bool.false_eq_true, if_false]
          rw [join_nil]; exact w4, k4, hE4, he4⟩ (by simp; omega)
        simpa using this
      have lay : (q || !sp || !decide (t[j] ∈ ifs)) = true → seqA (ldOb (σ4.c σ.n 0) (σ4.m σ.n) 0) fun v61 => kLd σ4 (.pointer (some ⟨e, 0, none⟩)) fun v63 => kSubS v63 (some (.int .i64 j)) (some (.int .i64 ((j : Int) + 1))) fun v67 => kBin .add v61 v67 fun v68 => kFld 0 (.pointer (some ⟨σ.n, 0, none⟩)) fun v69 => kSt σ4 1 v69 v68 fun s =>
          kFld 1 (.pointer (some ⟨σ.n, 0, none⟩)) fun v70 => kLd s v70 fun v71 => kFld 1 (.pointer (some ⟨e, 0, none⟩)) fun v72 => kLd s v72 fun v73 => kBsl s 1 [(.bool false)] [(0, 1, v73)] fun v74 s => kApp Try.prog 25 25 v71 v74 s fun v75 s => kFld 1 (.pointer (some ⟨σ.n, 0, none⟩)) fun v76 => kSt s 1 v76 v75 fun s => (fun (_ : List Value) s => kBin .add (.int .i64 j) (.int .i64 1) fun v43 => again2 [v43] s) [] s := by
        intro h
        have kn' : join2 f (keepP ifs (t.take (j + 1), q, sp, false)) = join2 (join2 f (keepP ifs (t.take j, q, sp, false))) ([t[j]], [q]) := by
          rw [kn, if_pos h, join_assoc]
        have gl : (join2 f (keepP ifs (t.take j, q, sp, false))).1.length ≤ 6060 ∧ (join2 f (keepP ifs (t.take j, q, sp, false))).2.length ≤ 6060 := by
          have := keepT_len ifs (t.take j, q, sp, false)
          simp only [join2, keepP, List.length_append, List.length_replicate]
          have : (t.take j).length ≤ t.length := by simp; omega
          dsimp only at *
          omega
        have hag3 := hag2
        generalize join2 f (keepP ifs (t.take j, q, sp, false)) = g at w4 kn' gl
        obtain ⟨v, hF4, m4, o4, n4, g4⟩ := w4
        have okv := o4.ok
        have hne : e ≠ σ.n := by rintro rfl; exact he4 (by rw [hF4]; simp)
        have hev : e ∉ ownL v := fun h => he4 (by rw [hF4]; simp [h])
        have hsz : (g.1.length : Int) + 1 ≤ 9223372036854775807 := by omega
        (try simp (maxSteps := 1000000) (dsimp := false) (disch := (first | omega | (simp only [okR]; done) | (simp only [sizeR] <;> omega) | fail)) only [↓preR, postR, ↓w_join, Nat.reduceEqDiff, Nat.reduceAdd, Nat.reduceSub, Nat.reduceMul, Int.reduceNeg, Nat.reduceLT, Int.reduceToNat, Nat.reduceLeDiff, Nat.sub_zero, m4, hE4, jb, hsub, okv])
        generalize hz5 : AS.new _ _ = σ5
        have c5 : Chg [σ.n] σ4 σ5 := by rw [← hz5]; exact ((Chg.refl [σ.n] σ4).put (g := σ.n) (.inl (by simp)) _).new _
        have m5 : σ5.m σ.n = some (.cells [.string (bs (g.1 ++ [t[j]])), v]) := by
          rw [← hz5, new_ne (by have := σ4.lt m4; rw [put_n]; omega), put_eq, m4]; rfl
        have b5 : σ5.m σ4.n = some (.cells [.bool q]) := by rw [← hz5]; exact new_at rfl
        have n5 : σ5.n = σ4.n + 1 := by rw [← hz5]; rfl
        refine app_by Try.underlying25 (by kernel_rfl : infB Try.prog 4 1 1 = true) (o4.chg c5 (fun x hx => by simp; rintro rfl; exact n4 hx)) (m := 1) (news := [.bool q]) ?_ rfl (by omega) (by unfold maxLen; omega) ?_
        · rw [ldsM b5 _ 0 (by simp)]; rfl
        intro v' σ6 o6 c6 g6
        have m6 := (c6.m σ.n (by have := σ4.lt m4; omega) n4).trans m5
        have ok6 := o6.ok
        (try simp (maxSteps := 1000000) (dsimp := false) (disch := (first | omega | (simp only [okR]; done) | (simp only [sizeR] <;> omega) | fail)) only [↓preR, postR, ↓w_join, Nat.reduceEqDiff, Nat.reduceAdd, Nat.reduceSub, Nat.reduceMul, Int.reduceNeg, Nat.reduceLT, Int.reduceToNat, Nat.reduceLeDiff, Nat.sub_zero, m6, ok6])
        have o6' : OwnV σ6 v' (g.2 ++ [q]).length 1 (bl (g.2 ++ [q])) := by simpa [bl] using o6
        obtain ⟨w7, c7, g7⟩ := WI.step (σ0 := σ) m4 o4 n4 (hF4 ▸ g4) c5 m5 o6' c6 g6 k4.n
        have hE7 := keepE (F := σ.n :: ownL v) hE4 (by simp; exact ⟨hne, hev⟩) c7 g7
        have := hag2 (j + 1, σ6.put σ.n (.cells [.string (bs (g.1 ++ [t[j]])), v']), σ.n :: ownL v') ⟨by omega, by
          dsimp only
          rw [kn']
          exact w7, k4.step c7 (fun x hx => .inr (g4 x (by rw [hF4]; exact hx))), hE7.1, hE7.2⟩ (by simp; omega)
        simpa using this
      cases q
      · cases sp
        · have lay' := lay (by simp)
          (try simp (maxSteps := 1000000) (dsimp := false) (disch := (first | omega | (simp only [okR]; done) | (simp only [sizeR] <;> omega) | fail)) only [↓preR, postR, ↓w_join, Nat.reduceEqDiff, Nat.reduceAdd, Nat.reduceSub, Nat.reduceMul, Int.reduceNeg, Nat.reduceLT, Int.reduceToNat, Nat.reduceLeDiff, Nat.sub_zero, hE4, hgc])
          exact lay'
        · (simp (maxSteps := 1000000) (dsimp := false) (disch := (first | omega | (simp only [okR]; done) | (simp only [sizeR] <;> omega) | fail)) only [↓preR, postR, ↓w_join, Nat.reduceEqDiff, Nat.reduceAdd, Nat.reduceSub, Nat.reduceMul, Int.reduceNeg, Nat.reduceLT, Int.reduceToNat, Nat.reduceLeDiff, Nat.sub_zero, hE4, hgc])
          refine within_c (by omega) ?_
          by_cases hin : t[j] ∈ ifs
          · rw [decide_eq_true hin]
            (try simp (maxSteps := 1000000) (dsimp := false) (disch := (first | omega | (simp only [okR]; done) | (simp only [sizeR] <;> omega) | fail)) only [↓preR, postR, ↓w_join, Nat.reduceEqDiff, Nat.reduceAdd, Nat.reduceSub, Nat.reduceMul, Int.reduceNeg, Nat.reduceLT, Int.reduceToNat, Nat.reduceLeDiff, Nat.sub_zero])
            exact skip (by simp [hin])
          · rw [decide_eq_false hin]
            have lay' := lay (by simp [hin])
            (try simp (maxSteps := 1000000) (dsimp := false) (disch := (first | omega | (simp only [okR]; done) | (simp only [sizeR] <;> omega) | fail)) only [↓preR, postR, ↓w_join, Nat.reduceEqDiff, Nat.reduceAdd, Nat.reduceSub, Nat.reduceMul, Int.reduceNeg, Nat.reduceLT, Int.reduceToNat, Nat.reduceLeDiff, Nat.sub_zero])
            exact lay'
      · have lay' := lay (by simp)
        (try simp (maxSteps := 1000000) (dsimp := false) (disch := (first | omega | (simp only [okR]; done) | (simp only [sizeR] <;> omega) | fail)) only [↓preR, postR, ↓w_join, Nat.reduceEqDiff, Nat.reduceAdd, Nat.reduceSub, Nat.reduceMul, Int.reduceNeg, Nat.reduceLT, Int.reduceToNat, Nat.reduceLeDiff, Nat.sub_zero, hE4, hgc])
        exact lay'
    · obtain rfl : j = t.length := by omega
      rw [List.take_length] at w4
      (try simp (maxSteps := 1000000) (dsimp := false) (disch := (first | omega | (simp only [okR]; done) | (simp only [sizeR] <;> omega) | fail)) only [↓preR, postR, ↓w_join, Nat.reduceEqDiff, Nat.reduceAdd, Nat.reduceSub, Nat.reduceMul, Int.reduceNeg, Nat.reduceLT, Int.reduceToNat, Nat.reduceLeDiff, Nat.sub_zero, hE4])
      exact nxt σ4 F4 w4 k4
  · obtain rfl : i = l.length := by omega
    rw [List.take_length] at w2
    have wl := want_len ifs l
    (try simp (maxSteps := 1000000) (dsimp := false) (disch := (first | omega | (simp only [okR]; done) | (simp only [sizeR] <;> omega) | fail)) only [↓preR, postR, ↓w_join, Nat.reduceEqDiff, Nat.reduceAdd, Nat.reduceSub, Nat.reduceMul, Int.reduceNeg, Nat.reduceLT, Int.reduceToNat, Nat.reduceLeDiff, Nat.sub_zero])
    generalize hzb : σ2.new _ = σb
    have kb : Chg [] σ2 σb := by rw [← hzb]; exact (Chg.refl _ _).new _
    have nb : σb.n = σ2.n + 1 := by rw [← hzb]; rfl
    have gb : WI σ σb σ2.n [σ2.n] ([], []) := by rw [← hzb]; exact WI.new rfl k2.n
    have k2b : Chg [] σ σb := k2.step kb (by simp)
    refine fields_f (RepL.mono k2b.le h0) (by omega) ?_
    intro σ3 v79 r3 c3
    have ev := ev_fields ifs l
    have kp := keep_pure ifs l
    have bdl := (bd_fold ifs l SS.bd_zero)
    have bdf := SS.bd_fin bdl
    have fle : (fieldsM l ifs).length ≤ 3031 := by
      have := bdf.2
      show (fieldsS l ifs).out.length ≤ _
      unfold fieldsS
      omega
    have catle := fun i => cat_le (fieldsM l ifs) i
    rw [kp] at catle
    have evc : ∀ i, (cat ((fieldsM l ifs).take i)).2.length = (cat ((fieldsM l ifs).take i)).1.length := by
      intro i
      have : ∀ L : List Fd, (∀ f ∈ L, f.2.length = f.1.length) → (cat L).2.length = (cat L).1.length := by
        intro L
        induction L with
        | nil => intro _; rfl
        | cons f L ih =>
          intro h
          have e : cat (f :: L) = join2 f (cat L) := by simp [cat, join2]
          rw [e]
          simp only [join2, List.length_append, h f (by simp), ih (fun g hg => h g (by simp [hg]))]
      exact this _ (fun f hf => ev f (List.mem_of_mem_take hf))
    generalize hfs : fieldsM l ifs = fs at r3 ev kp fle catle evc
    have w3 := (w2.chg kb (fun _ _ => by simp)).chg c3 (fun _ _ => by simp)
    have g3 := gb.chg c3 (fun _ _ => by simp)
    obtain ⟨fa, fc, rfl, _⟩ := flds_at (r3.mono sans_le_ld)
    have hfl : (fs.length : Int) ≤ 3031 := by omega
    (try simp (maxSteps := 1000000) (dsimp := false) (disch := (first | omega | (simp only [okR]; done) | (simp only [sizeR] <;> omega) | fail)) only [↓preR, postR, ↓w_join, Nat.reduceEqDiff, Nat.reduceAdd, Nat.reduceSub, Nat.reduceMul, Int.reduceNeg, Nat.reduceLT, Int.reduceToNat, Nat.reduceLeDiff, Nat.sub_zero])
    refine loop_by (α := Nat × AS × List Nat) (fun x => [.int .i64 x.1]) (fun x => x.2.1) (fun x => x.1 ≤ fs.length ∧ WI σ x.2.1 σ2.n x.2.2 (cat (fs.take x.1)) ∧ Chg [σ2.n] σ3 x.2.1 ∧ ∀ g, g ∈ x.2.2 → g = σ2.n ∨ σ3.n ≤ g) (fun x => fs.length - x.1) (0, σ3, [σ2.n]) ⟨by simp, g3, Chg.refl _ _, by simp⟩ rfl rfl ?_
    rintro ⟨i, σ4, F4⟩ ⟨hi, g4, k4, n4⟩ again hag
    dsimp only at hi g4 k4 n4 hag ⊢
    have le4 : Ce.le (sans σ3 (List.range σb.n)) σ4.ld := Ce.le_trans (k4.sans (fun g hg => .inl (by simp at hg; subst hg; simp; omega))) sans_le_ld
    have cl := catle i
    have ec := evc i
    by_cases hlt : i < fs.length
    · obtain ⟨_, _, e1, _, x1⟩ := flds_at (r3.mono le4)
      injection e1 with e1 _ _
      subst e1
      rcases x1 with rfl | ⟨b, o, rfl, x1⟩
      · simp at hlt
      obtain ⟨w, ht, rw_, _, y0, y1⟩ := x1 i hlt
      have hbs : b ≠ σ2.n := by
        rintro rfl
        have := r3.off (by omega)
        simp only [List.mem_range] at this
        omega
      have rw5 : ∀ σ5, Chg [σ2.n] σ4 σ5 → RepL σ5.ld w fs[i].2 := by
        intro σ5 c5
        have le5 : Ce.le (sans σ3 (List.range σb.n)) σ5.ld := Ce.le_trans ((k4.step c5 (fun g hg => .inl hg)).sans (fun g hg => .inl (by simp at hg; subst hg; simp; omega))) sans_le_ld
        obtain ⟨_, _, e1, _, x5⟩ := flds_at (r3.mono le5)
        injection e1 with e1 _ _
        rcases x5 with h | ⟨b', o', h, x5⟩
        · rw [h] at hlt; simp at hlt
        rw [h] at e1
        injection e1 with e1
        injection e1 with e1 e2 _
        subst e1 e2
        obtain ⟨w5, _, r5, _, _, y5⟩ := x5 i hlt
        have h1 : σ4.ld b (o + i * 2 + 1) = some w := by rw [ld_ob]; exact y1
        have h2 := c5.ld h1 (by simpa using hbs)
        rw [ld_ob] at h2
        rw [ldc, h2] at y5
        rw [Option.some.inj y5]
        exact r5
      have cn : cat (fs.take (i + 1)) = join2 (cat (fs.take i)) fs[i] := by
        rw [List.take_succ_eq_append_getElem hlt, cat_app, cat_one]
      have cl2 := catle (i + 1)
      rw [cn] at cl2
      have hev := ev fs[i] (List.getElem_mem hlt)
      have nxt : ∀ σ' F', WI σ σ' σ2.n F' (join2 (cat (fs.take i)) fs[i]) → Chg F4 σ4 σ' → (∀ g, g ∈ F' → g ∈ F4 ∨ σ4.n ≤ g) → again [.int .i64 ((i : Int) + 1)] σ' := by
        intro σ' F' h1 h2 h3
        have nn := k4.n
        have := hag (i + 1, σ', F') ⟨by omega, by dsimp only; rw [cn]; exact h1, k4.step h2 (fun g hg => by
          rcases n4 g hg with h | h
          · exact .inl (by simp [h])
          · exact .inr h), fun g hg => by
          rcases h3 g hg with h | h
          · exact n4 g h
          · exact .inr (by omega)⟩ (by simp; omega)
        simpa using this
      generalize fs[i] = pf at ht rw_ y0 y1 cl2 hev nxt rw5
      generalize cat (fs.take i) = g at g4 cl cl2 ec nxt
      simp only [join2, List.length_append] at cl2
      obtain ⟨v, hF4, m4, o4, q4, ge4⟩ := g4
      rw [ldc] at y0 y1
      obtain ⟨wa, wc, rfl, _, _⟩ := bools_at rw_
      have okv := o4.ok
      have hev' : (pf.2.length : Int) = pf.1.length := by omega
      have hsz : (g.1.length : Int) + pf.1.length ≤ 9223372036854775807 := by omega
      (try simp (maxSteps := 1000000) (dsimp := false) (disch := (first | omega | (simp only [okR]; done) | (simp only [sizeR] <;> omega) | fail)) only [↓preR, postR, ↓w_join, Nat.reduceEqDiff, Nat.reduceAdd, Nat.reduceSub, Nat.reduceMul, Int.reduceNeg, Nat.reduceLT, Int.reduceToNat, Nat.reduceLeDiff, Nat.sub_zero, m4, y0, y1, okv])
      generalize hz5 : AS.put _ _ _ = σ5
      have c5 : Chg [σ2.n] σ4 σ5 := by rw [← hz5]; exact (Chg.refl [σ2.n] σ4).put (g := σ2.n) (.inl (by simp)) _
      have m5 : σ5.m σ2.n = some (.cells [.string (bs (g.1 ++ pf.1)), v]) := by rw [← hz5, put_eq, m4]; rfl
      have o5 : OwnV σ5 v g.2.length 1 (bl g.2) := o4.chg c5 (fun x hx => by simp; rintro rfl; exact q4 hx)
      have fin : ∀ v' σ6, OwnV σ6 v' (g.2 ++ pf.2).length 1 (bl (g.2 ++ pf.2)) → Chg (ownL v) σ5 σ6 → (∀ x, x ∈ ownL v' → x ∈ ownL v ∨ x = σ5.n) → kFld 1 (.pointer (some ⟨σ2.n, 0, none⟩)) fun v116 => kSt σ6 1 v116 v' fun s => (fun (_ : List Value) s => kBin .add (.int .i64 i) (.int .i64 1) fun v85 => again [v85] s) [] s := by
        intro v' σ6 o6 c6 g6
        have m6 := (c6.m σ2.n (by have := σ4.lt m4; have := c5.n; omega) q4).trans m5
        have ok6 := o6.ok
        (try simp (maxSteps := 1000000) (dsimp := false) (disch := (first | omega | (simp only [okR]; done) | (simp only [sizeR] <;> omega) | fail)) only [↓preR, postR, ↓w_join, Nat.reduceEqDiff, Nat.reduceAdd, Nat.reduceSub, Nat.reduceMul, Int.reduceNeg, Nat.reduceLT, Int.reduceToNat, Nat.reduceLeDiff, Nat.sub_zero, m6, ok6])
        obtain ⟨w7, c7, g7⟩ := WI.step (σ0 := σ) m4 o4 q4 (hF4 ▸ ge4) c5 m5 o6 c6 g6 (by have := k2.n; have := kb.n; have := c3.n; have := k4.n; omega)
        exact nxt _ _ w7 (hF4 ▸ c7) (fun x hx => hF4 ▸ g7 x hx)
      by_cases hq0 : pf.2 = []
      · rw [hq0]
        refine app0_by Try.underlying25 (by kernel_rfl : infB Try.prog 4 1 1 = true) o5 ?_
        have := fin v σ5 (by rw [hq0, List.append_nil]; exact o5) (Chg.refl _ _) (fun x hx => .inl hx)
        exact this
      · obtain ⟨wa', wc', ew, _, hall⟩ := RepL.all (rw5 σ5 c5)
        injection ew with ew _ _
        subst ew
        rcases hall with h | ⟨bq, oq, xs, rfl, hx, hr⟩
        · exact absurd h hq0
        have hxs : xs = bl pf.2 := by
          have : ∀ (L : List Bool) (xs : List Value), RpL σ5.ld L xs → xs = bl L := by
            intro L
            induction L with
            | nil => intro xs h; exact h
            | cons q L ih =>
              intro xs h
              obtain ⟨x, y, rfl, hx, hy⟩ := h
              rw [show x = [Value.bool q] from hx, ih y hy]; rfl
          exact this _ _ hr
        subst hxs
        refine app_by Try.underlying25 (by kernel_rfl : infB Try.prog 4 1 1 = true) o5 (m := pf.2.length) (news := bl pf.2) hx (by simp [bl, okCell]) (by omega) (by unfold maxLen; omega) ?_
        intro v' σ6 o6 c6 g6
        exact fin v' σ6 (by simpa [bl] using o6) c6 g6
    · obtain rfl : i = fs.length := by omega
      rw [List.take_length, kp] at g4
      have wF : ∀ x, x ∈ F2 → x ∉ [σ2.n] := fun x hx => by
        have := w2.below x hx
        simp; omega
      have w4 := w3.chg k4 wF
      obtain ⟨v1, a1, b1, r1⟩ := g4.rep
      obtain ⟨v2, a2, b2, r2⟩ := w4.rep
      have okk : ([.string (bs (wantM ifs l).1), v1] : List Value).length = 2 := rfl
      have cv1 : cellsV v1 = [v1] := by obtain ⟨a, c, rfl, _⟩ := r1.val; rfl
      rw [ldc] at a1 b1 a2 b2
      (simp (maxSteps := 1000000) (dsimp := false) (disch := (first | omega | (simp only [okR]; done) | (simp only [sizeR] <;> omega) | fail)) only [↓preR, postR, ↓w_join, Nat.reduceEqDiff, Nat.reduceAdd, Nat.reduceSub, Nat.reduceMul, Int.reduceNeg, Nat.reduceLT, Int.reduceToNat, Nat.reduceLeDiff, Nat.sub_zero, a1, b1, a2, b2])
      generalize hz5 : σ4.new _ = σ5
      have k5 : Chg [] σ4 σ5 := by rw [← hz5]; exact (Chg.refl _ _).new _
      have m5 : σ5.m σ4.n = some (.cells [.string (bs (wantM ifs l).1), v1, .string (bs (wantM ifs l).1), v2]) := by rw [← hz5]; exact new_eq_
      have hsm : (wantM ifs l).1.length ≤ maxLen := small _ (by omega)
      refine plain_c (l := [wantM ifs l, wantM ifs l]) (lit_rep m5 ((RpL.one (fd_rp hsm (r1.mono k5.le))).append (RpL.one (fd_rp hsm (r2.mono k5.le)))) rfl (small _ (by simp))) (by simp) ?_
      intro σ6 v6 r6 c6
      obtain ⟨a6, cp6, rfl, _, hx | ⟨b6, o6, rfl, x6⟩⟩ := flds_at r6
      · cases hx
      obtain ⟨w6, _, s6, _, e6, f6'⟩ := x6 0 (by simp)
      obtain ⟨w7, _, s7, _, e7, f7'⟩ := x6 1 (by simp)
      simp only [ldc, Nat.zero_mul, Nat.one_mul, Nat.add_zero, List.getElem_cons_zero, List.getElem_cons_succ] at e6 f6' s6 e7 f7' s7
      (simp (maxSteps := 1000000) (dsimp := false) (disch := (first | omega | (simp only [okR]; done) | (simp only [sizeR] <;> omega) | fail)) only [↓preR, postR, ↓w_join, Nat.reduceEqDiff, Nat.reduceAdd, Nat.reduceSub, Nat.reduceMul, Int.reduceNeg, Nat.reduceLT, Int.reduceToNat, Nat.reduceLeDiff, Nat.sub_zero, e6, f6', e7, f7'])
      refine same_c s6 s7 (by omega) ?_
      intro σ8 c8
      rw [decide_eq_true rfl]
      (try simp (maxSteps := 1000000) (dsimp := false) (disch := (first | omega | (simp only [okR]; done) | (simp only [sizeR] <;> omega) | fail)) only [↓preR, postR, ↓w_join, Nat.reduceEqDiff, Nat.reduceAdd, Nat.reduceSub, Nat.reduceMul, Int.reduceNeg, Nat.reduceLT, Int.reduceToNat, Nat.reduceLeDiff, Nat.sub_zero])
      refine awake_ok fun σ' _ => ?_
      (try simp (maxSteps := 1000000) (dsimp := false) (disch := (first | omega | (simp only [okR]; done) | (simp only [sizeR] <;> omega) | fail)) only [↓preR, postR, ↓w_join, Nat.reduceEqDiff, Nat.reduceAdd, Nat.reduceSub, Nat.reduceMul, Int.reduceNeg, Nat.reduceLT, Int.reduceToNat, Nat.reduceLeDiff, Nat.sub_zero])
theorem keeps_law {v0 v1 : Value} (A0 : OV σ.c (shOf Try.prog 8 22) v0) (A1 : OV σ.c (shOf Try.prog 8 9) v1) :
    kCall Try.prog 3 [v0, v1] σ fun v _ => v = .bool true := by
  obtain ⟨l, hl⟩ := pcs_arg A0
  obtain ⟨ifs, rfl, h64⟩ := str_arg A1
  exact keeps_walk (hl.mono c_le_ld)
end
end Go.Proofs.Ytaenpaeigoeebaa
