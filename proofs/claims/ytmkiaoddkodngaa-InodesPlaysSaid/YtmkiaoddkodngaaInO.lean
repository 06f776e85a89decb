/- Nodes: calls of any kind; when all names and users are gone, all is free. Conditions: as each theorem says. -/
import Derived.Test.YtmkiaoddkodngaaInN
namespace Go.Proofs.Ytmkiaoddkodngaa
open E Go.Lib
set_option linter.unusedVariables false
set_option linter.unusedSimpArgs false
set_option maxHeartbeats 1000000
set_option maxRecDepth 20000

section
variable {σ σ' : AS} {X : Ce} {R : List Ck} {k : Value → AS → Prop} {t nb sp N m : Nat} {V V' : TV} {ask i at_ n a e : Int} {j : Nat} {data s : List UInt8} {d : NV}
abbrev opC (o : Op5) : List Value := [.int .i64 o.1, .int .i64 o.2.1, .int .i64 o.2.2.1, .int .i64 o.2.2.2.1, .string (bs o.2.2.2.2)]
theorem do_c (hi : inI64 i) (hat : inI64 at_) (hn : inI64 n) (hdl : data.length ≤ 1000000000) (h : Hs σ X (Tb t N V :: R))
    (hm : ∀ d, atV V i = some d → -1000000 ≤ d.names ∧ d.names ≤ 1000000 ∧ -1000000 ≤ d.users ∧ d.users ≤ 1000000)
    (hk : ∀ m σ', MOk V N (ask, i, at_, n, data) m → Hs σ' X (Tb t N (doM (ask, i, at_, n, data) V m).2 :: R) →
      k (.tuple #[.int .i64 (doM (ask, i, at_, n, data) V m).1.1, .string (bs (doM (ask, i, at_, n, data) V m).1.2.1), .int .i64 (doM (ask, i, at_, n, data) V m).1.2.2]) σ') :
    kCall Try.prog 17 [pp t, .agg (opC (ask, i, at_, n, data)).toArray] σ k := by
  refine f17 ?_
  unfold inI64 at hi hat hn
  have h1 := h.junk (.cells (opC (ask, i, at_, n, data)))
  by_cases h0 : ask = 0
  · subst h0
    (simp (maxSteps := 1000000) (dsimp := false) (disch := (first | omega | (simp only [okR]; done) | (simp only [sizeR] <;> omega) | fail)) only [↓preR, postR, ↓w_join, Nat.reduceEqDiff, Nat.reduceAdd, Nat.reduceSub, Nat.reduceMul, Int.reduceNeg, Nat.reduceLT, Int.reduceToNat, Nat.reduceLeDiff, Nat.sub_zero, F17])
    refine vmake_c (i := i) (at_ := at_) (data := data) h1 fun σ1 h2 => ?_
    (try simp (maxSteps := 1000000) (dsimp := false) (disch := (first | omega | (simp only [okR]; done) | (simp only [sizeR] <;> omega) | fail)) only [↓preR, postR, ↓w_join, Nat.reduceEqDiff, Nat.reduceAdd, Nat.reduceSub, Nat.reduceMul, Int.reduceNeg, Nat.reduceLT, Int.reduceToNat, Nat.reduceLeDiff, Nat.sub_zero])
    have := hk 0 σ1 (fun d _ h => by cases h) h2
    have e1 : (doM (0, i, at_, n, data) V 0).1.2.1 = [] := by
      simp only [doM, if_true]
      split
      · rfl
      · split <;> rfl
    rw [e1] at this
    exact this
  by_cases h11 : ask = 1
  · subst h11
    (simp (maxSteps := 1000000) (dsimp := false) (disch := (first | omega | (simp only [okR]; done) | (simp only [sizeR] <;> omega) | fail)) only [↓preR, postR, ↓w_join, Nat.reduceEqDiff, Nat.reduceAdd, Nat.reduceSub, Nat.reduceMul, Int.reduceNeg, Nat.reduceLT, Int.reduceToNat, Nat.reduceLeDiff, Nat.sub_zero, F17])
    refine vtie_c (at_ := at_) (n := n) (data := data) h1 (fun d hd => ⟨(hm d hd).1, (hm d hd).2.1⟩) fun σ1 h2 => ?_
    (try simp (maxSteps := 1000000) (dsimp := false) (disch := (first | omega | (simp only [okR]; done) | (simp only [sizeR] <;> omega) | fail)) only [↓preR, postR, ↓w_join, Nat.reduceEqDiff, Nat.reduceAdd, Nat.reduceSub, Nat.reduceMul, Int.reduceNeg, Nat.reduceLT, Int.reduceToNat, Nat.reduceLeDiff, Nat.sub_zero])
    have := hk 0 σ1 (fun d _ h => by cases h) h2
    have e1 : (doM (1, i, at_, n, data) V 0).1.1 = 0 ∧ (doM (1, i, at_, n, data) V 0).1.2.1 = [] := by
      simp only [doM]
      cases atV V i <;> exact ⟨rfl, rfl⟩
    rw [e1.1, e1.2] at this
    exact this
  by_cases h12 : ask = 2
  · subst h12
    (simp (maxSteps := 1000000) (dsimp := false) (disch := (first | omega | (simp only [okR]; done) | (simp only [sizeR] <;> omega) | fail)) only [↓preR, postR, ↓w_join, Nat.reduceEqDiff, Nat.reduceAdd, Nat.reduceSub, Nat.reduceMul, Int.reduceNeg, Nat.reduceLT, Int.reduceToNat, Nat.reduceLeDiff, Nat.sub_zero, F17])
    refine vuntie_c (at_ := at_) (n := n) (data := data) h1 (fun d hd => ⟨(hm d hd).1, (hm d hd).2.1⟩) fun σ1 h2 => ?_
    (try simp (maxSteps := 1000000) (dsimp := false) (disch := (first | omega | (simp only [okR]; done) | (simp only [sizeR] <;> omega) | fail)) only [↓preR, postR, ↓w_join, Nat.reduceEqDiff, Nat.reduceAdd, Nat.reduceSub, Nat.reduceMul, Int.reduceNeg, Nat.reduceLT, Int.reduceToNat, Nat.reduceLeDiff, Nat.sub_zero])
    have := hk 0 σ1 (fun d _ h => by cases h) h2
    have e1 : (doM (2, i, at_, n, data) V 0).1.1 = 0 ∧ (doM (2, i, at_, n, data) V 0).1.2.1 = [] := by
      simp only [doM]
      cases atV V i with
      | none => exact ⟨rfl, rfl⟩
      | some d => by_cases hx : d.names = 0 <;> simp [hx]
    rw [e1.1, e1.2] at this
    exact this
  by_cases h13 : ask = 3
  · subst h13
    (simp (maxSteps := 1000000) (dsimp := false) (disch := (first | omega | (simp only [okR]; done) | (simp only [sizeR] <;> omega) | fail)) only [↓preR, postR, ↓w_join, Nat.reduceEqDiff, Nat.reduceAdd, Nat.reduceSub, Nat.reduceMul, Int.reduceNeg, Nat.reduceLT, Int.reduceToNat, Nat.reduceLeDiff, Nat.sub_zero, F17])
    refine vhold_c (at_ := at_) (n := n) (data := data) h1 (fun d hd => ⟨(hm d hd).2.2.1, (hm d hd).2.2.2⟩) fun σ1 h2 => ?_
    (try simp (maxSteps := 1000000) (dsimp := false) (disch := (first | omega | (simp only [okR]; done) | (simp only [sizeR] <;> omega) | fail)) only [↓preR, postR, ↓w_join, Nat.reduceEqDiff, Nat.reduceAdd, Nat.reduceSub, Nat.reduceMul, Int.reduceNeg, Nat.reduceLT, Int.reduceToNat, Nat.reduceLeDiff, Nat.sub_zero])
    have := hk 0 σ1 (fun d _ h => by cases h) h2
    have e1 : (doM (3, i, at_, n, data) V 0).1.1 = 0 ∧ (doM (3, i, at_, n, data) V 0).1.2.1 = [] := by
      simp only [doM]
      cases atV V i <;> exact ⟨rfl, rfl⟩
    rw [e1.1, e1.2] at this
    exact this
  by_cases h14 : ask = 4
  · subst h14
    (simp (maxSteps := 1000000) (dsimp := false) (disch := (first | omega | (simp only [okR]; done) | (simp only [sizeR] <;> omega) | fail)) only [↓preR, postR, ↓w_join, Nat.reduceEqDiff, Nat.reduceAdd, Nat.reduceSub, Nat.reduceMul, Int.reduceNeg, Nat.reduceLT, Int.reduceToNat, Nat.reduceLeDiff, Nat.sub_zero, F17])
    refine vloose_c (at_ := at_) (n := n) (data := data) h1 (fun d hd => ⟨(hm d hd).2.2.1, (hm d hd).2.2.2⟩) fun σ1 h2 => ?_
    (try simp (maxSteps := 1000000) (dsimp := false) (disch := (first | omega | (simp only [okR]; done) | (simp only [sizeR] <;> omega) | fail)) only [↓preR, postR, ↓w_join, Nat.reduceEqDiff, Nat.reduceAdd, Nat.reduceSub, Nat.reduceMul, Int.reduceNeg, Nat.reduceLT, Int.reduceToNat, Nat.reduceLeDiff, Nat.sub_zero])
    have := hk 0 σ1 (fun d _ h => by cases h) h2
    have e1 : (doM (4, i, at_, n, data) V 0).1.1 = 0 ∧ (doM (4, i, at_, n, data) V 0).1.2.1 = [] := by
      simp only [doM]
      cases atV V i with
      | none => exact ⟨rfl, rfl⟩
      | some d => by_cases hx : d.users = 0 <;> simp [hx]
    rw [e1.1, e1.2] at this
    exact this
  by_cases h15 : ask = 5
  · subst h15
    (simp (maxSteps := 1000000) (dsimp := false) (disch := (first | omega | (simp only [okR]; done) | (simp only [sizeR] <;> omega) | fail)) only [↓preR, postR, ↓w_join, Nat.reduceEqDiff, Nat.reduceAdd, Nat.reduceSub, Nat.reduceMul, Int.reduceNeg, Nat.reduceLT, Int.reduceToNat, Nat.reduceLeDiff, Nat.sub_zero, F17])
    refine vread_c (data := data) h1 fun σ1 h2 => ?_
    (try simp (maxSteps := 1000000) (dsimp := false) (disch := (first | omega | (simp only [okR]; done) | (simp only [sizeR] <;> omega) | fail)) only [↓preR, postR, ↓w_join, Nat.reduceEqDiff, Nat.reduceAdd, Nat.reduceSub, Nat.reduceMul, Int.reduceNeg, Nat.reduceLT, Int.reduceToNat, Nat.reduceLeDiff, Nat.sub_zero])
    have e2 : (doM (5, i, at_, n, data) V 0).2 = V := by
      simp only [doM]
      cases atV V i with
      | none => rfl
      | some d => by_cases hx : at_ < 0 ∨ n < 0 <;> simp [hx]
    have := hk 0 σ1 (fun d _ h => by cases h) (by rw [e2]; exact h2)
    have e1 : (doM (5, i, at_, n, data) V 0).1.1 = 0 := by
      simp only [doM]
      cases atV V i with
      | none => rfl
      | some d => by_cases hx : at_ < 0 ∨ n < 0 <;> simp [hx]
    rw [e1] at this
    exact this
  by_cases h16 : ask = 6
  · subst h16
    (simp (maxSteps := 1000000) (dsimp := false) (disch := (first | omega | (simp only [okR]; done) | (simp only [sizeR] <;> omega) | fail)) only [↓preR, postR, ↓w_join, Nat.reduceEqDiff, Nat.reduceAdd, Nat.reduceSub, Nat.reduceMul, Int.reduceNeg, Nat.reduceLT, Int.reduceToNat, Nat.reduceLeDiff, Nat.sub_zero, F17])
    refine vwrite_c (n := n) h1 (by omega) hdl fun m σ1 hmo h2 => ?_
    (try simp (maxSteps := 1000000) (dsimp := false) (disch := (first | omega | (simp only [okR]; done) | (simp only [sizeR] <;> omega) | fail)) only [↓preR, postR, ↓w_join, Nat.reduceEqDiff, Nat.reduceAdd, Nat.reduceSub, Nat.reduceMul, Int.reduceNeg, Nat.reduceLT, Int.reduceToNat, Nat.reduceLeDiff, Nat.sub_zero])
    have := hk m σ1 hmo h2
    have e1 : (doM (6, i, at_, n, data) V m).1.2.1 = [] := by
      simp only [doM]
      cases atV V i with
      | none => rfl
      | some d =>
        by_cases hx : at_ < 0
        · simp [hx]
        · by_cases hy : m = 0 <;> simp [hx, hy]
    rw [e1] at this
    exact this
  · (simp (maxSteps := 1000000) (dsimp := false) (disch := (first | omega | (simp only [okR]; done) | (simp only [sizeR] <;> omega) | fail)) only [↓preR, postR, ↓w_join, Nat.reduceEqDiff, Nat.reduceAdd, Nat.reduceSub, Nat.reduceMul, Int.reduceNeg, Nat.reduceLT, Int.reduceToNat, Nat.reduceLeDiff, Nat.sub_zero, F17, h0, h11, h12, h13, h14, h15, h16])
    refine vcut_c (at_ := at_) (data := data) h1 (by omega) fun σ1 h2 => ?_
    (try simp (maxSteps := 1000000) (dsimp := false) (disch := (first | omega | (simp only [okR]; done) | (simp only [sizeR] <;> omega) | fail)) only [↓preR, postR, ↓w_join, Nat.reduceEqDiff, Nat.reduceAdd, Nat.reduceSub, Nat.reduceMul, Int.reduceNeg, Nat.reduceLT, Int.reduceToNat, Nat.reduceLeDiff, Nat.sub_zero])
    have e2 : doM (ask, i, at_, n, data) V 0 = doM (7, i, at_, n, data) V 0 := by
      simp only [doM, h0, h11, h12, h13, h14, h15, h16, if_false]
      rfl
    have := hk 0 σ1 (fun d _ h => absurd h h16) (by rw [e2]; exact h2)
    rw [e2] at this
    have e1 : (doM (7, i, at_, n, data) V 0).1.1 = 0 ∧ (doM (7, i, at_, n, data) V 0).1.2.1 = [] := by
      simp only [doM]
      cases atV V i with
      | none => exact ⟨rfl, rfl⟩
      | some d =>
        by_cases hx : n < 0
        · simp [hx]
        · by_cases hy : 4096 < n <;> simp [hx, hy]
    rw [e1.1, e1.2] at this
    exact this
/-! ### What there is of names and users -/
def upN {α : Type} (f : Nat → α) (n : Nat) (a : α) : Nat → α := fun i => if i = n then a else f i
def ar6 (f : Nat → Int) : List Value := (List.range 6).map fun i => .int .i64 (f i)
theorem ar6_len (f : Nat → Int) : (ar6 f).length = 6 := by simp [ar6]
theorem ar6_get (f : Nat → Int) (n : Nat) (h : n < 6) : (ar6 f)[n]? = some (.int .i64 (f n)) := by simp [ar6, h]
theorem ar6_set (f : Nat → Int) (n : Nat) (a : Int) : (ar6 f).set n (.int .i64 a) = ar6 (upN f n a) := by
  apply List.ext_getElem?
  intro i
  rw [List.getElem?_set]
  by_cases hi : i < 6
  · rw [ar6_get _ _ hi, ar6_get _ _ hi, ar6_len]
    unfold upN
    by_cases h : n = i
    · subst h; simp [hi]
    · simp [h, Ne.symm h]
  · rw [List.getElem?_eq_none (by rw [ar6_len]; omega), List.getElem?_eq_none (by rw [ar6_len]; omega), ar6_len]
    split
    · rename_i h; subst h; simp [hi]
    · rfl
def NI (o : Option NV) (n u : Int) (c : Nat) : Prop := match o with
  | none => n = 0 ∧ u = 0
  | some d => n = d.names ∧ u = d.users ∧ 0 ≤ n ∧ n ≤ c ∧ 0 ≤ u ∧ u ≤ c ∧ 1 ≤ d.kind
structure LI (V : TV) (nm us : Nat → Int) (c : Nat) : Prop where
  len : V.length = 5
  at_ : ∀ i : Nat, 1 ≤ i → i ≤ 5 → NI (atV V i) (nm i) (us i) c
theorem NI.mono {o : Option NV} {x u : Int} {c c' : Nat} (h : NI o x u c) (hc : c ≤ c') : NI o x u c' := by
  unfold NI at h ⊢
  cases o with
  | none => exact h
  | some d => obtain ⟨h1, h2, h3, h4, h5, h6, h7⟩ := h; exact ⟨h1, h2, h3, by omega, h5, by omega, h7⟩
theorem LI.mono {nm us : Nat → Int} {c c' : Nat} (h : LI V nm us c) (hc : c ≤ c') : LI V nm us c' := ⟨h.len, fun i h1 h2 => (h.at_ i h1 h2).mono hc⟩
theorem atV_put (o : Option NV) (hi : 1 ≤ i) (hl : i ≤ V.length) (k : Int) : atV (putV V i o) k = if k = i then o else atV V k := by
  unfold atV putV
  by_cases h1 : 1 ≤ k
  · rw [if_pos h1, if_pos h1, List.getElem?_set]
    by_cases h2 : k = i
    · subst h2
      rw [if_pos rfl, if_pos rfl, if_pos (by omega)]
      rfl
    · rw [if_neg (by omega), if_neg h2]
  · rw [if_neg h1, if_neg h1, if_neg (by omega)]
theorem LI.put {nm us : Nat → Int} {c : Nat} (h : LI V nm us c) {o : Option NV} (x u : Int) (h1 : 1 ≤ i) (h5 : i ≤ 5) (ho : NI o x u (c + 1)) : LI (putV V i o) (upN nm i.toNat x) (upN us i.toNat u) (c + 1) := by
  refine ⟨by rw [List.length_set]; exact h.len, fun k hk1 hk5 => ?_⟩
  rw [atV_put o h1 (by rw [h.len]; omega)]
  unfold upN
  by_cases hk : k = i.toNat
  · rw [if_pos (by omega), if_pos hk, if_pos hk]; exact ho
  · rw [if_neg (by omega), if_neg hk, if_neg hk]; exact (h.at_ k hk1 hk5).mono (by omega)
theorem upN_self {α : Type} (f : Nat → α) (n : Nat) : upN f n (f n) = f := by
  funext i; unfold upN; split
  · rename_i h; rw [h]
  · rfl
theorem LI.none_out {nm us : Nat → Int} {c : Nat} (h : LI V nm us c) (ho : ¬ (1 ≤ i ∧ i ≤ 5)) : atV V i = none := by
  unfold atV
  split
  · rw [List.getElem?_eq_none (by rw [h.len]; omega)]; rfl
  · rfl
theorem LI.hav {nm us : Nat → Int} {c : Nat} (h : LI V nm us c) (hd : atV V i = some d) : 1 ≤ i ∧ i ≤ 5 ∧ nm i.toNat = d.names ∧ us i.toNat = d.users ∧ 0 ≤ d.names ∧ d.names ≤ c ∧ 0 ≤ d.users ∧ d.users ≤ c ∧ 1 ≤ d.kind := by
  have hr : 1 ≤ i ∧ i ≤ 5 := by
    apply Classical.byContradiction
    intro ho
    rw [h.none_out ho] at hd; cases hd
  have := h.at_ i.toNat (by omega) (by omega)
  rw [show ((i.toNat : Nat) : Int) = i from by omega, hd] at this
  obtain ⟨h1, h2, h3, h4, h5, h6, h7⟩ := this
  exact ⟨hr.1, hr.2, h1, h2, by omega, by omega, by omega, by omega, h7⟩
/-- What a call makes of it. -/
theorem LI.step {nm us : Nat → Int} {c : Nat} (h : LI V nm us c) (ask i at_ n : Int) (data : List UInt8) (m : Nat) :
    ((doM (ask, i, at_, n, data) V m).1.2.2 = 0 ∧ 1 ≤ i ∧ i ≤ 5 ∧ 1 ≤ ask ∧ ask ≤ 4 ∧
      LI (doM (ask, i, at_, n, data) V m).2 (if ask = 1 then upN nm i.toNat (nm i.toNat + 1) else if ask = 2 then upN nm i.toNat (nm i.toNat - 1) else nm)
        (if ask = 3 then upN us i.toNat (us i.toNat + 1) else if ask = 4 then upN us i.toNat (us i.toNat - 1) else us) (c + 1)) ∨
    ((¬ (1 ≤ ask ∧ ask ≤ 4) ∨ (doM (ask, i, at_, n, data) V m).1.2.2 ≠ 0) ∧ LI (doM (ask, i, at_, n, data) V m).2 nm us (c + 1)) := by
  have hsame : LI V nm us (c + 1) := h.mono (by omega)
  simp only [doM]
  by_cases h0 : ask = 0
  · subst h0
    refine .inr ⟨.inl (by omega), ?_⟩
    simp only [if_true]
    split
    · exact hsame
    · rename_i hn
      split
      · exact hsame
      · rename_i j hj
        rw [List.findIdx?_eq_some_iff_getElem] at hj
        obtain ⟨hj1, hj2, _⟩ := hj
        have hjl := hj1
        rw [h.len] at hjl
        have hp := h.put (i := (j : Int) + 1) (o := some ⟨n, 0, 0, [], List.replicate 64 false⟩) 0 0 (by omega) (by omega) ⟨rfl, rfl, by decide, by omega, by decide, by omega, by show 1 ≤ n; omega⟩
        have e1 : ((j : Int) + 1).toNat = j + 1 := by omega
        have e2 : ((j : Int) + 1 - 1).toNat = j := by omega
        have hno := h.at_ (j + 1) (by omega) (by omega)
        have hv : atV V ((j + 1 : Nat) : Int) = none := by
          unfold atV
          rw [if_pos (by omega), show (((j + 1 : Nat) : Int) - 1).toNat = j from by omega, List.getElem?_eq_getElem hj1]
          cases hx : V[j] with
          | none => rfl
          | some d => rw [hx] at hj2; cases hj2
        rw [hv] at hno
        obtain ⟨g1, g2⟩ := hno
        have a1 := upN_self nm (j + 1)
        have a2 := upN_self us (j + 1)
        rw [g1] at a1
        rw [g2] at a2
        rw [e1, a1, a2] at hp
        unfold putV at hp
        rw [e2] at hp
        exact hp
  simp only [h0, if_false]
  cases hd : atV V i with
  | none => exact .inr ⟨.inr (by simp), hsame⟩
  | some d =>
    obtain ⟨i1, i5, e1, e2, n0, nc, u0, uc, kd⟩ := h.hav hd
    have a1 := upN_self nm i.toNat
    have a2 := upN_self us i.toNat
    by_cases h1 : ask = 1
    · subst h1
      refine .inl ⟨rfl, i1, i5, by omega, by omega, ?_⟩
      have hp := h.put (o := some ⟨d.kind, d.names + 1, d.users, d.data, d.has⟩) (nm i.toNat + 1) (us i.toNat) i1 i5 ⟨by rw [e1], e2, by omega, by omega, by omega, by omega, kd⟩
      rw [a2] at hp
      exact hp
    by_cases h2 : ask = 2
    · subst h2
      by_cases hz : d.names = 0
      · simp only [hz, if_true]
        exact .inr ⟨.inr (by simp), hsame⟩
      · simp only [hz, if_false]
        refine .inl ⟨rfl, i1, i5, by omega, by omega, ?_⟩
        have hp := h.put (o := if d.names - 1 = 0 ∧ d.users = 0 then none else some ⟨d.kind, d.names - 1, d.users, d.data, d.has⟩) (nm i.toNat - 1) (us i.toNat) i1 i5 (by
          split
          · rename_i hx; exact ⟨by omega, by omega⟩
          · exact ⟨by rw [e1], e2, by omega, by omega, by omega, by omega, kd⟩)
        rw [a2] at hp
        exact hp
    by_cases h3 : ask = 3
    · subst h3
      refine .inl ⟨rfl, i1, i5, by omega, by omega, ?_⟩
      have hp := h.put (o := some ⟨d.kind, d.names, d.users + 1, d.data, d.has⟩) (nm i.toNat) (us i.toNat + 1) i1 i5 ⟨e1, by rw [e2], by omega, by omega, by omega, by omega, kd⟩
      rw [a1] at hp
      exact hp
    by_cases h4 : ask = 4
    · subst h4
      by_cases hz : d.users = 0
      · simp only [hz, if_true]
        exact .inr ⟨.inr (by simp), hsame⟩
      · simp only [hz, if_false]
        refine .inl ⟨rfl, i1, i5, by omega, by omega, ?_⟩
        have hp := h.put (o := if d.names = 0 ∧ d.users - 1 = 0 then none else some ⟨d.kind, d.names, d.users - 1, d.data, d.has⟩) (nm i.toNat) (us i.toNat - 1) i1 i5 (by
          split
          · rename_i hx; exact ⟨by omega, by omega⟩
          · exact ⟨e1, by rw [e2], by omega, by omega, by omega, by omega, kd⟩)
        rw [a1] at hp
        exact hp
    refine .inr ⟨.inl (by omega), ?_⟩
    simp only [h1, h2, h3, h4, if_false]
    have hput : ∀ (dat : List UInt8) (has : List Bool), LI (putV V i (some ⟨d.kind, d.names, d.users, dat, has⟩)) nm us (c + 1) := fun dat has => by
      have hp := h.put (o := some ⟨d.kind, d.names, d.users, dat, has⟩) (nm i.toNat) (us i.toNat) i1 i5 ⟨e1, e2, by omega, by omega, by omega, by omega, kd⟩
      rw [a1, a2] at hp
      exact hp
    repeat' split
    all_goals first | exact hsame | exact hput _ _
end
end Go.Proofs.Ytmkiaoddkodngaa
