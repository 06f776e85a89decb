/- The statement ExpandAsks, walked. Conditions: as the theorems say. -/
import Derived.Test.YtdlimikcgdgfpaaGreatDoorY5
import Derived.Test.YtdlimikcgdgfpaaGreatDoorY4
import Derived.Test.YtdlimikcgdgfpaaGreatDoorY2
set_option linter.unusedVariables false
set_option linter.unusedSimpArgs false
set_option maxHeartbeats 4000000
set_option maxRecDepth 100000
open Nat renaming reduceEqDiff → Q1, reduceAdd → Q2, reduceSub → Q3, reduceMul → Q4, reduceLT → Q5, reduceLeDiff → Q6, sub_zero → Q7
open Int renaming reduceNeg → Q8, reduceToNat → Q9
namespace Go.Proofs.YtdlimikcgdgfpaaGreatDoor
open Tryz renaming prog → PG
open E renaming preR → P1, postR → P2, w_join → P3, w_stop → P4, dsc → P5
open E Go.Lib S09 G02 V08 W05
abbrev askS (u : Nat) : XS := ⟨⟨[], 0, []⟩, u, 0, false, [], []⟩
abbrev askF (a : Str) : Fld := (cutR 10 a, List.replicate (cutR 10 a).length true)
section
variable {g : Nat} {o : Go.Obj} {ans : List Str}
theorem ask_on {u : Nat} {t : Str} (hu : u < ans.length) : PcsK g o ans [runP t] false (askS u) (askS (u + 1)) [(cutR 10 ans[u], true, false, false)] :=
  pcs_one (x := runP t) (.inr (.inl ⟨rfl, hu, rfl, rfl⟩)) rfl
theorem ask_off {t : Str} : PcsK g o ans [runP t] false (askS ans.length) ⟨⟨[], 0, []⟩, ans.length, 0, true, t, []⟩ [] :=
  pcs_one (x := runP t) (.inr (.inr (.inl ⟨rfl, rfl, rfl, rfl⟩))) rfl
theorem ask_cons {u : Nat} {t : Str} {ts : List Str} {s' : XS} {fs : List Fld} (hu : u < ans.length) (ha : ∀ a, a ∈ ans → a.length ≤ 200) (h : RunK g o ans (ts.map fun t => [runP t]) (askS (u + 1)) s' fs) :
    RunK g o ans ((t :: ts).map fun t => [runP t]) (askS u) s' (askF ans[u] :: fs) := by
  have h1 := cutR_len 10 ans[u]
  have h2 := ha ans[u] (List.getElem_mem hu)
  have hr : RunK g o ans ([runP t] :: ts.map fun t => [runP t]) (askS u) s' (fieldsM [(cutR 10 ans[u], true, false, false)] (ifsX (askS (u + 1))) ++ fs) := .cons _ _ _ _ _ _ _ (ask_on hu) rfl (by simp [many]; omega) h
  rw [fields_quoted] at hr
  exact hr
theorem ask_run (ha : ∀ a, a ∈ ans → a.length ≤ 200) : ∀ (ts : List Str) (u : Nat), u ≤ ans.length →
    (∀ (hlt : ans.length - u < ts.length), ∃ fs, RunK g o ans (ts.map fun t => [runP t]) (askS u) ⟨⟨[], 0, []⟩, ans.length, 0, true, ts[ans.length - u], []⟩ fs) ∧
    (ts.length ≤ ans.length - u → RunK g o ans (ts.map fun t => [runP t]) (askS u) (askS (u + ts.length)) (((ans.drop u).take ts.length).map askF))
  | [], u, hu => ⟨fun h => absurd h (Nat.not_lt_zero _), fun _ => .nil _⟩
  | t :: ts, u, hu => by
    by_cases he : u < ans.length
    · obtain ⟨i1, i2⟩ := ask_run ha ts (u + 1) he
      refine ⟨fun hlt => ?_, fun hle => ?_⟩
      · obtain ⟨fs, h⟩ := i1 (by simp only [List.length_cons] at hlt; omega)
        refine ⟨askF ans[u] :: fs, ?_⟩
        have e : (t :: ts)[ans.length - u] = ts[ans.length - (u + 1)]'(by simp only [List.length_cons] at hlt; omega) := by
          have : ans.length - u = (ans.length - (u + 1)) + 1 := by omega
          simp only [this, List.getElem_cons_succ]
        rw [e]
        exact ask_cons he ha h
      · have h := i2 (by simp only [List.length_cons] at hle; omega)
        have h2 := ask_cons (t := t) he ha h
        rw [show u + 1 + ts.length = u + (t :: ts).length from by simp only [List.length_cons]; omega] at h2
        rw [List.drop_eq_getElem_cons he, List.length_cons, List.take_succ_cons, List.map_cons]
        exact h2
    · obtain rfl : u = ans.length := by omega
      refine ⟨fun hlt => ⟨[], ?_⟩, fun hle => by simp only [List.length_cons] at hle; omega⟩
      have e : (t :: ts)[ans.length - ans.length] = t := by simp only [Nat.sub_self, List.getElem_cons_zero]
      rw [e]
      exact .cut _ _ _ _ _ ask_off rfl
end
section
variable {σ σ' : AS} {X : Ce} {R : List Ck} {k : Value → AS → Prop} {g i v0 : Nat} {o : Go.Obj} {tv av : Value} {texts ans : List Str}
theorem push_w {l : List (List Pt)} {w : List Pt} {u wv : Value} {K : Value → AS → Prop} (h : Hs σ X (E.Own (α := List Pt) wv l :: R)) (hw : RepL X u w) (hl : l.length ≤ 1000) (hK : ∀ v' s', Hs s' X (E.Own (α := List Pt) v' (l ++ [w]) :: R) → K v' s') :
    kApp PG 25 25 wv (.slice (some ⟨σ.n, 0, none⟩) 1 1) (σ.new (.cells [u])) K :=
  push_by h (e := 27) (bytes := 24) (by kernel_rfl) (by kernel_rfl) ⟨u, rfl, hw⟩ (by omega) (by unfold maxLen; omega) hK
theorem asks_walk (L : A03.Law X g o) (h : Hs σ X [Oth g o]) (ht : RepL X tv texts) (ha : RepL X av ans) (hk : ∀ X' σ', Ce.le X X' → Hs σ' X' [Oth g o] → k (.bool true) σ') : kCall PG 3 [tv, av] σ k := by
  have hm : ∀ n : Nat, n ≤ 1000 → n ≤ maxLen := fun n h => by unfold maxLen; omega
  obtain ⟨ta, tb, to, tc, rfl, tcap, tm, tat⟩ := str_at ht
  obtain ⟨aa, ab, ao, ac, rfl, acap, am, aat⟩ := str_at ha
  unfold maxLen at tm am
  have tat0 := tat
  refine f3 ?_
  (try simp -dsimp (disch := first|exact P5|fail) only [↓P1,P2,↓P4,Q1,Q2,Q3,Q4,Q5,Q6,Q7,Q8,Q9, F3])
  refine join_by fun J1 hJ1 => ?_
  have big : kCall PG 11 [] σ fun v29 s => k v29 s := awake_x L (i := 0) rfl h fun X2 s3 le2 h3 => hk _ _ le2 h3
  refine texts_c h ht (fun hT => ?_) (by (try simp -dsimp (disch := first|exact P5|fail) only [↓P1,P2,↓P4,Q1,Q2,Q3,Q4,Q5,Q6,Q7,Q8,Q9]); exact big)
  (try simp -dsimp (disch := first|exact P5|fail) only [↓P1,P2,↓P4,Q1,Q2,Q3,Q4,Q5,Q6,Q7,Q8,Q9])
  refine texts_c h ha (fun hA => ?_) (by (try simp -dsimp (disch := first|exact P5|fail) only [↓P1,P2,↓P4,Q1,Q2,Q3,Q4,Q5,Q6,Q7,Q8,Q9]); exact big)
  (try simp -dsimp (disch := first|exact P5|fail) only [↓P1,P2,↓P4,Q1,Q2,Q3,Q4,Q5,Q6,Q7,Q8,Q9])
  refine hJ1 _ _ ?_
  clear hJ1 big
  (try simp -dsimp (disch := first|exact P5|fail) only [↓P1,P2,↓P4,Q1,Q2,Q3,Q4,Q5,Q6,Q7,Q8,Q9])
  refine join_by fun J2 hJ2 => ?_
  have htl := hT.1
  have hal := hA.1
  have go : ∀ s1 X1 wv, Ce.le X X1 → RepL X1 wv (texts.map fun t => [runP t]) → Hs s1 X1 [Oth g o] → J2 [wv] s1 := by
    intro s1 X1 wv le1 r1 h1
    refine hJ2 _ _ ?_
    clear hJ2 h tat
    (try simp -dsimp (disch := first|exact P5|fail) only [↓P1,P2,↓P4,Q1,Q2,Q3,Q4,Q5,Q6,Q7,Q8,Q9])
    refine vnew_c (zero := sh) h1 (TxS.rep h1 (nil_rep X1)) (by decide) fun q s2 h2 => ?_
    (try simp -dsimp (disch := first|exact P5|fail) only [↓P1,P2,↓P4,Q1,Q2,Q3,Q4,Q5,Q6,Q7,Q8,Q9])
    have L1 := L.mono le1
    have ha1 := ha.mono le1
    have hA2 : ∀ a, a ∈ ans → a.length ≤ 200 := hA.2
    obtain ⟨k1, k2⟩ := ask_run (g := g) (o := o) (ans := ans) hA2 texts 0 (Nat.zero_le _)
    by_cases hlt : ans.length < texts.length
    · obtain ⟨fs, hrun⟩ := k1 (by omega)
      have ix : texts[ans.length - 0] = texts[ans.length] := rfl
      obtain ⟨ti, c0, cl⟩ := tat0 ans.length hlt
      refine expand_c (i := 0) L1 rfl ha1 r1 (by rw [List.length_map]; omega) (by show (0 : Nat) ≤ 1000000; omega) hrun h2 fun X3 fv q3 s3 le3 r3 h3 => ?_
      refine take_res (fa := none) (fn := 0) (fc := 0) (pp := none) (w := true) (nd := texts[ans.length]) (us := ans.length) (ms := []) (e := 0) h3.drop fun ca s4 h4 => ?_
      (try simp -dsimp (disch := first|exact P5|fail) only [↓P1,P2,↓P4,Q1,Q2,Q3,Q4,Q5,Q6,Q7,Q8,Q9])
      refine join_by fun J3 hJ3 => ?_
      (try simp -dsimp (disch := first|exact P5|fail) only [↓P1,P2,↓P4,Q1,Q2,Q3,Q4,Q5,Q6,Q7,Q8,Q9])
      refine hJ3 _ _ ?_
      clear hJ3
      (try simp -dsimp (disch := first|exact P5|fail) only [↓P1,P2,↓P4,Q1,Q2,Q3,Q4,Q5,Q6,Q7,Q8,Q9])
      refine join_by fun J4 hJ4 => ?_
      have e1 : (ans.length : Int) < (texts.length : Int) := by omega
      have d0 := h4.ldx (le3 _ _ _ (le1 _ _ _ c0))
      (try simp -dsimp (disch := first|exact P5|fail) only [↓P1,P2,↓P4,Q1,Q2,Q3,Q4,Q5,Q6,Q7,Q8,Q9, e1, h4.obj, ti, d0])
      refine awake_x (L1.mono le3) (i := 2) rfl h4 fun X5 s5 le5 h5 => ?_
      (try simp -dsimp (disch := first|exact P5|fail) only [↓P1,P2,↓P4,Q1,Q2,Q3,Q4,Q5,Q6,Q7,Q8,Q9])
      exact hk _ _ (Ce.le_trans le1 (Ce.le_trans le3 le5)) h5.drop.drop
    · have hrun := k2 (by omega)
      rw [List.drop_zero, Nat.zero_add] at hrun
      have fl : ((ans.take texts.length).map askF).length = texts.length := by rw [List.length_map, List.length_take]; omega
      refine expand_c (i := 0) L1 rfl ha1 r1 (by rw [List.length_map]; omega) (by show (0 : Nat) ≤ 1000000; omega) hrun h2 fun X3 fv q3 s3 le3 r3 h3 => ?_
      obtain ⟨fa, fb, fo, fc, rfl, _, fm, fat⟩ := fld_at r3
      rw [fl]
      refine take_res (fn := texts.length) (w := false) (nd := []) (us := texts.length) (ms := []) (e := 0) h3.drop fun ca s4 h4 => ?_
      (try simp -dsimp (disch := first|exact P5|fail) only [↓P1,P2,↓P4,Q1,Q2,Q3,Q4,Q5,Q6,Q7,Q8,Q9])
      refine join_by fun J3 hJ3 => ?_
      (try simp -dsimp (disch := first|exact P5|fail) only [↓P1,P2,↓P4,Q1,Q2,Q3,Q4,Q5,Q6,Q7,Q8,Q9])
      refine hJ3 _ _ ?_
      clear hJ3
      (try simp -dsimp (disch := first|exact P5|fail) only [↓P1,P2,↓P4,Q1,Q2,Q3,Q4,Q5,Q6,Q7,Q8,Q9])
      refine join_by fun J4 hJ4 => ?_
      have e1 : ¬ (ans.length : Int) < (texts.length : Int) := by omega
      (try simp -dsimp (disch := first|exact P5|fail) only [↓P1,P2,↓P4,Q1,Q2,Q3,Q4,Q5,Q6,Q7,Q8,Q9, e1])
      refine hJ4 _ _ ?_
      clear hJ4
      (try simp -dsimp (disch := first|exact P5|fail) only [↓P1,P2,↓P4,Q1,Q2,Q3,Q4,Q5,Q6,Q7,Q8,Q9])
      refine join_by fun J5 hJ5 => ?_
      (try simp -dsimp (disch := first|exact P5|fail) only [↓P1,P2,↓P4,Q1,Q2,Q3,Q4,Q5,Q6,Q7,Q8,Q9, h4.obj])
      refine hJ5 _ _ ?_
      clear hJ5
      (try simp -dsimp (disch := first|exact P5|fail) only [↓P1,P2,↓P4,Q1,Q2,Q3,Q4,Q5,Q6,Q7,Q8,Q9])
      refine join_by fun J6 hJ6 => ?_
      have fin : J6 [] s4 := by
        refine hJ6 _ _ ?_
        (try simp -dsimp (disch := first|exact P5|fail) only [↓P1,P2,↓P4,Q1,Q2,Q3,Q4,Q5,Q6,Q7,Q8,Q9])
        refine awake_x (L1.mono le3) (i := 2) rfl h4 fun X5 s5 le5 h5 => ?_
        (try simp -dsimp (disch := first|exact P5|fail) only [↓P1,P2,↓P4,Q1,Q2,Q3,Q4,Q5,Q6,Q7,Q8,Q9])
        exact hk _ _ (Ce.le_trans le1 (Ce.le_trans le3 le5)) h5.drop.drop
      clear hJ6
      refine loop_inv (fun nn xs s5 => ∃ j : Nat, xs = [.int .i64 j] ∧ j ≤ texts.length ∧ s4 = s5 ∧ nn = texts.length - j) _ ⟨0, rfl, Nat.zero_le _, rfl, rfl⟩ ?_
      rintro _ _ s5 again ⟨j, rfl, hj, rfl, rfl⟩ hag
      (try simp -dsimp (disch := first|exact P5|fail) only [↓P1,P2,↓P4,Q1,Q2,Q3,Q4,Q5,Q6,Q7,Q8,Q9])
      refine join_by fun J8 hJ8 => ?_
      by_cases hj2 : j < texts.length
      · obtain ⟨rfl, c0, cl⟩ := aat j (by omega)
        obtain ⟨rfl, _, f0, _⟩ := fat j (by rw [fl]; exact hj2)
        have ef : ((ans.take texts.length).map askF)[j].1 = cutR 10 ans[j] := by simp [askF]
        rw [ef] at f0
        have d0 := h4.ldx (le3 _ _ _ (le1 _ _ _ c0))
        have d1 := h4.ldx f0
        have j1 : (j : Int) < (texts.length : Int) := by omega
        have j2 : (j : Int) < (ans.length : Int) := by omega
        (try simp -dsimp (disch := first|exact P5|fail) only [↓P1,P2,↓P4,Q1,Q2,Q3,Q4,Q5,Q6,Q7,Q8,Q9, j1])
        refine hJ8 _ _ ?_
        clear hJ8
        (try simp -dsimp (disch := first|exact P5|fail) only [↓P1,P2,↓P4,Q1,Q2,Q3,Q4,Q5,Q6,Q7,Q8,Q9])
        refine join_by fun J9 hJ9 => ?_
        have t9 : J9 [] s4 := by
          refine hJ9 _ _ ?_
          (try simp -dsimp (disch := first|exact P5|fail) only [↓P1,P2,↓P4,Q1,Q2,Q3,Q4,Q5,Q6,Q7,Q8,Q9])
          exact hag _ _ _ ⟨j + 1, rfl, hj2, rfl, rfl⟩ (by omega)
        clear hJ9 hag
        (try simp -dsimp (disch := first|exact P5|fail) only [↓P1,P2,↓P4,Q1,Q2,Q3,Q4,Q5,Q6,Q7,Q8,Q9, j2, d0])
        refine join_by fun J10 hJ10 => ?_
        have t10 : ∀ u, u = cutR 10 ans[j] → J10 [.string (bs u)] s4 := by
          intro u hu
          subst hu
          refine hJ10 _ _ ?_
          (try simp -dsimp (disch := first|exact P5|fail) only [↓P1,P2,↓P4,Q1,Q2,Q3,Q4,Q5,Q6,Q7,Q8,Q9, h4.obj, d1, j1])
          exact t9
        clear hJ10
        generalize ans[j] = t at cl t10
        unfold maxLen at cl
        refine loop_inv (fun nn xs s6 => ∃ u : Str, xs = [.string (bs u)] ∧ s4 = s6 ∧ u.length ≤ t.length ∧ cutR 10 u = cutR 10 t ∧ nn = u.length) _ ⟨t, rfl, rfl, Nat.le_refl _, rfl, rfl⟩ ?_
        rintro _ _ s6 again ⟨u, rfl, rfl, hu, hc, rfl⟩ hag
        rcases List.eq_nil_or_concat u with rfl | ⟨u', y, rfl⟩
        · (try simp -dsimp (disch := first|exact P5|fail) only [↓P1,P2,↓P4,Q1,Q2,Q3,Q4,Q5,Q6,Q7,Q8,Q9])
          refine join_by fun J12 hJ12 => ?_
          (try simp -dsimp (disch := first|exact P5|fail) only [↓P1,P2,↓P4,Q1,Q2,Q3,Q4,Q5,Q6,Q7,Q8,Q9])
          exact t10 _ (by rw [← hc]; rfl)
        · rw [List.concat_eq_append] at hu hc hag ⊢
          have hl1 : (u' ++ [y]).length = u'.length + 1 := by simp
          rw [cutR_snoc] at hc
          have e1 : (((u' ++ [y]).length : Int) - 1).toNat = u'.length := by rw [hl1]; omega
          have e2 : (u' ++ [y])[u'.length]? = some y := by simp
          have g1 : (0 : Int) < ((u' ++ [y]).length : Int) := by rw [hl1]; omega
          by_cases hy : y = 10
          · rw [if_pos hy] at hc
            have ey : ((y.toNat : Int) = 10) := by rw [hy]; rfl
            (try simp -dsimp (disch := first|exact P5|fail) only [↓P1,P2,↓P4,Q1,Q2,Q3,Q4,Q5,Q6,Q7,Q8,Q9, e1, e2, g1, Option.getD_some, ey])
            refine join_by fun J12 hJ12 => ?_
            (try simp -dsimp (disch := first|exact P5|fail) only [↓P1,P2,↓P4,Q1,Q2,Q3,Q4,Q5,Q6,Q7,Q8,Q9, e1, e2, g1, Option.getD_some, ey])
            refine hJ12 _ _ ?_
            (try simp -dsimp (disch := first|exact P5|fail) only [↓P1,P2,↓P4,Q1,Q2,Q3,Q4,Q5,Q6,Q7,Q8,Q9, e1])
            rw [List.take_append_of_le_length (Nat.le_refl _), List.take_length]
            exact hag _ _ _ ⟨u', rfl, rfl, by omega, hc, rfl⟩ (by rw [hl1]; omega)
          · rw [if_neg hy] at hc
            have ey : ¬ ((y.toNat : Int) = 10) := fun h => hy (UInt8.toNat_inj.1 (by show y.toNat = 10; omega))
            (try simp -dsimp (disch := first|exact P5|fail) only [↓P1,P2,↓P4,Q1,Q2,Q3,Q4,Q5,Q6,Q7,Q8,Q9, e1, e2, g1, Option.getD_some, ey])
            refine join_by fun J12 hJ12 => ?_
            (try simp -dsimp (disch := first|exact P5|fail) only [↓P1,P2,↓P4,Q1,Q2,Q3,Q4,Q5,Q6,Q7,Q8,Q9, e1, e2, g1, Option.getD_some, ey])
            exact t10 _ hc
      · obtain rfl : j = texts.length := by omega
        (try simp -dsimp (disch := first|exact P5|fail) only [↓P1,P2,↓P4,Q1,Q2,Q3,Q4,Q5,Q6,Q7,Q8,Q9])
        exact fin
  clear hJ2
  refine loop_inv (fun nn xs s1 => ∃ (j : Nat) (X1 : Ce) (wv : Value), xs = [wv, .int .i64 j] ∧ j ≤ texts.length ∧ Ce.le X X1 ∧ Hs s1 X1 (E.Own (α := List Pt) wv ((texts.take j).map fun t => [runP t]) :: [Oth g o]) ∧ nn = texts.length - j) _ ⟨0, X, _, rfl, Nat.zero_le _, Ce.le_refl _, h.own0, rfl⟩ ?_
  rintro _ _ s1 again ⟨j, X1, wv, rfl, hj, le1, h1, rfl⟩ hag
  (try simp -dsimp (disch := first|exact P5|fail) only [↓P1,P2,↓P4,Q1,Q2,Q3,Q4,Q5,Q6,Q7,Q8,Q9])
  refine join_by fun J14 hJ14 => ?_
  by_cases hlt : j < texts.length
  · obtain ⟨rfl, c0, cl⟩ := tat j hlt
    have d0 := h1.ldx (le1 _ _ _ c0)
    (try simp -dsimp (disch := first|exact P5|fail) only [↓P1,P2,↓P4,Q1,Q2,Q3,Q4,Q5,Q6,Q7,Q8,Q9])
    refine hJ14 _ _ ?_
    clear hJ14
    (try simp -dsimp (disch := first|exact P5|fail) only [↓P1,P2,↓P4,Q1,Q2,Q3,Q4,Q5,Q6,Q7,Q8,Q9])
    refine join_by fun J15 hJ15 => ?_
    obtain ⟨X2, le2, r2, h2⟩ := row_pt h1 (x := runP texts[j]) (ptOk (k := 3) (o := 0) (q := true) (c := false) (t := texts[j]) cl (by decide) (by decide))
    (try simp -dsimp (disch := first|exact P5|fail) only [↓P1,P2,↓P4,Q1,Q2,Q3,Q4,Q5,Q6,Q7,Q8,Q9, d0])
    replace h2 : Hs (s1.new (.cells [.int .i64 3, .string (bs texts[j]), .bool true, .int .i64 0, .bool false, .slice none 0 0])) X2 (E.Own (α := List Pt) wv ((texts.take j).map fun t => [runP t]) :: [Oth g o]) := h2
    generalize hs2 : AS.new s1 _ = s2 at h2 ⊢
    have hn2 : s1.n + 1 = s2.n := by rw [← hs2]; rfl
    rw [hn2]
    refine push_w h2 r2 (by rw [List.length_map, List.length_take]; omega) fun v' s3 h3 => ?_
    (try simp -dsimp (disch := first|exact P5|fail) only [↓P1,P2,↓P4,Q1,Q2,Q3,Q4,Q5,Q6,Q7,Q8,Q9])
    refine hJ15 _ _ ?_
    (try simp -dsimp (disch := first|exact P5|fail) only [↓P1,P2,↓P4,Q1,Q2,Q3,Q4,Q5,Q6,Q7,Q8,Q9])
    refine hag _ _ _ ⟨j + 1, X2, v', rfl, hlt, Ce.le_trans le1 le2, ?_, rfl⟩ (by omega)
    rw [List.take_succ_eq_append_getElem hlt, List.map_append]
    exact h3
  · obtain rfl : j = texts.length := by omega
    rw [List.take_length] at h1
    (try simp -dsimp (disch := first|exact P5|fail) only [↓P1,P2,↓P4,Q1,Q2,Q3,Q4,Q5,Q6,Q7,Q8,Q9])
    obtain ⟨X2, le2, r2, h2⟩ := h1.keep
    exact go _ _ _ (Ce.le_trans le1 le2) r2 h2
theorem asks_law {W : World} {te te2 : Nat} {pe pe2 v0 v1 : Value} (T : VarAt PG "internal/strconv.uint64pow10" g o powV) (ho : W.heap[g]? = some o) (hE : W.cell? ⟨5, 0, none⟩ = some (.iface te pe)) (hS : W.cell? ⟨4, 0, none⟩ = some (.iface te2 pe2))
    (A0 : OV (E.start W).c (shOf PG 8 22) v0) (A1 : OV (E.start W).c (shOf PG 8 22) v1) : callP PG 3 [v0, v1] W fun v w' => v = .bool true ∧ KeepP (fun _ => False) W w' := by
  rw [show shOf PG 8 22 = .slice .str 1 from by kernel_rfl] at A0 A1
  obtain ⟨texts, h0⟩ := arg_list (α := Str) A0
  obtain ⟨ans, h1⟩ := arg_list (α := Str) A1
  have g0 := h0.offT (gs := [g]) (fun g' i v hg hv => pow_no T ho hg hv)
  have g1 := h1.offT (gs := [g]) (fun g' i v hg hv => pow_no T ho hg hv)
  exact A03.law_st T ho hE hS fun σ L h => asks_walk L h g0 g1 fun X' σ' _ h' => ⟨rfl, X', h'⟩
end
end Go.Proofs.YtdlimikcgdgfpaaGreatDoor
