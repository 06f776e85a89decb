/- The statement ExpandQuotes: variables that are made, facts about them. Conditions: as the theorems say. -/
import Derived.Test.YtdlimikcgdgfpaaGreatDoorY5
import Derived.Test.YtdlimikcgdgfpaaGreatDoorY4
import Derived.Test.YtdlimikcgdgfpaaGreatDoorY2
set_option linter.unusedVariables false
set_option linter.unusedSimpArgs false
set_option maxHeartbeats 4000000
set_option maxRecDepth 100000
open Nat renaming reduceEqDiff → Q1, reduceAdd → Q2, reduceSub → Q3, reduceMul → Q4, reduceLT → Q5, reduceLeDiff → Q6, sub_zero → Q7
open Int renaming reduceNeg → Q8, reduceToNat → Q9
namespace Go.Proofs.YtdlimikcgdgfpaaGreatDoor
open Tryz renaming prog → PG
open E renaming preR → P1, postR → P2, w_join → P3, w_stop → P4, dsc → P5
open E Go.Lib S09 G02 V08 W05
structure QInv (S : VM) (j : Nat) (args : List Str) : Prop where
  v : InvV S j
  ar : S.ar = args
  st : S.st = 0
  nm : ∀ n, (getV S.l n).set = true → V08.nameB n = true
theorem QInv.turn {S : VM} {j : Nat} {args : List Str} {n : Str} {w : Bool} {x' : VV} (h : QInv S j args) (hn : n.length ≤ 200) (hx : x'.val.length ≤ 200) (hs : V08.nameB n = false → x'.set = false ∨ True) : QInv (turnE S n w x').2 (j + 1) args := by
  refine ⟨h.v.turn hn hx, ?_, ?_, fun m hm => ?_⟩
  · unfold turnE; split
    · exact h.ar
    · split <;> exact h.ar
  · unfold turnE; split
    · exact h.st
    · split <;> exact h.st
  · unfold turnE at hm
    split at hm
    · exact h.nm m hm
    · rename_i hN
      split at hm
      · exact h.nm m hm
      · have hm : (getV (turnV S.l n x') m).set = true := hm
        rw [get_turn] at hm
        split at hm
        · rename_i e
          rw [e]
          simpa using hN
        · exact h.nm m hm
theorem itoa0 : itoa 0 = [48] := by
  unfold itoa
  rw [if_neg (by decide)]
  show decDigits 0 = _
  rw [decDigits, dif_pos (by decide)]
  rfl
theorem itoa_20 {n : Nat} (h : n ≤ 20) : (itoa (n : Int)).length ≤ 2 := by
  cases n with
  | zero => show (itoa 0).length ≤ 2; rw [itoa0]; decide
  | succ i =>
    have e := d20_at (i := i) (by omega)
    rw [show ((i + 1 : Nat) : Int) = (i : Int) + 1 from by omega, e]
    have : ∀ i : Fin 20, (d20.getD i.val []).length ≤ 2 := by decide
    exact this ⟨i, by omega⟩
theorem refP_len {l : List Str} {p : Str} (h : ∀ s, s ∈ l → s.length ≤ 200) : (refP l p).1.length ≤ 200 := by
  unfold refP
  split
  · rename_i i _
    show (l.getD i []).length ≤ 200
    by_cases hi : i < l.length
    · rw [List.getD_eq_getElem?_getD, List.getElem?_eq_getElem hi]
      exact h _ (List.getElem_mem hi)
    · rw [List.getD_eq_getElem?_getD, List.getElem?_eq_none (by omega)]
      simp
  · simp
section
variable {S : VM} {j : Nat} {args : List Str} {name : Str}
theorem q_inv (h : QInv S j args) (ha : TextsP args) : InvP S := ⟨by rw [h.st]; unfold inI64; omega, by rw [h.ar]; exact ha⟩
theorem q_len (h : QInv S j args) (ha : TextsP args) : (paramV S sh name).1.length ≤ 5000 ∧ (¬ (name = [64] ∨ name = [42]) → (paramV S sh name).1.length ≤ 200) := by
  have h20 := ha.1
  unfold paramV
  rw [h.ar, h.st]
  by_cases c1 : name = [35]
  · rw [if_pos c1]
    have := itoa_20 h20
    exact ⟨Nat.le_trans this (by decide), fun _ => Nat.le_trans this (by decide)⟩
  rw [if_neg c1]
  by_cases c2 : name = [63]
  · rw [if_pos c2, itoa0]
    exact ⟨by decide, fun _ => by decide⟩
  rw [if_neg c2]
  by_cases c3 : name = [64] ∨ name = [42]
  · rw [if_pos c3]
    refine ⟨?_, fun h => absurd c3 h⟩
    have := join1_len (l := args) (sep := [32]) (by decide) ha.2
    show (Lib.join args [32]).length ≤ 5000
    omega
  rw [if_neg c3]
  by_cases c4 : V08.nameB name = true
  · rw [if_pos c4]
    have := h.v.getv name
    exact ⟨Nat.le_trans this (by decide), fun _ => this⟩
  rw [if_neg c4]
  by_cases c5 : name = [48]
  · rw [if_pos c5]; exact ⟨by decide, fun _ => by decide⟩
  rw [if_neg c5]
  have := refP_len (p := name) ha.2
  exact ⟨by omega, fun _ => by omega⟩
theorem q_vals (h : QInv S j args) (ha : TextsP args) : (∀ t, t ∈ valsX (x0 S) (vP name true) → t.length ≤ 200) ∧ (valsX (x0 S) (vP name true)).length ≤ 20 := by
  unfold valsX
  split
  · show (∀ t, t ∈ S.ar → _) ∧ S.ar.length ≤ 20
    rw [h.ar]; exact ⟨ha.2, ha.1⟩
  · rename_i hm
    have hn : ¬ (name = [64] ∨ name = [42]) := by
      intro hc
      apply hm
      unfold manyX
      show (decide (name = [64]) || decide (name = [42])) = true
      rcases hc with rfl | rfl <;> rfl
    refine ⟨fun t ht => ?_, by simp⟩
    simp only [List.mem_singleton] at ht
    rw [ht]
    exact (q_len (name := name) h ha).2 hn
theorem q_many (h : QInv S j args) (ha : TextsP args) : many (giveX (x0 S) (vP name true) (valsX (x0 S) (vP name true))) ≤ 1000000 := by
  obtain ⟨h1, h2⟩ := q_vals (name := name) h ha
  unfold giveX
  split
  · have := join1_len (l := valsX (x0 S) (vP name true)) (sep := (ifsX (x0 S)).take 1) (by rw [List.length_take]; omega) h1
    simp only [many, List.map_cons, List.map_nil, List.sum_cons, List.sum_nil]
    omega
  · have := brks_many (vP name true).quote 200 (valsX (x0 S) (vP name true)) h1
    omega
variable {g : Nat} {o : Go.Obj}
theorem q_run (h : QInv S j args) (ha : TextsP args) (hn : name.length ≤ 200) : RunK g o [] [[vP name true]] (x0 S) (x0 S) (fieldsM (giveX (x0 S) (vP name true) (valsX (x0 S) (vP name true))) (ifsX (x0 S))) := by
  obtain ⟨h1, h2⟩ := q_vals (name := name) h ha
  have hk : PcsK g o [] [vP name true] false (x0 S) (x0 S) (giveX (x0 S) (vP name true) (valsX (x0 S) (vP name true))) := var_k (s := x0 S) rfl (q_inv h ha) hn (Nat.le_trans (q_len (name := name) h ha).1 (by decide)) h1 h2
  have hr : RunK g o [] ([vP name true] :: []) (x0 S) (x0 S) (fieldsM (giveX (x0 S) (vP name true) (valsX (x0 S) (vP name true))) (ifsX (x0 S)) ++ []) := .cons _ _ _ _ _ _ _ hk rfl (q_many h ha) (.nil _)
  rw [List.append_nil] at hr
  exact hr
theorem q_set (h : QInv S j args) (hs : (getV S.l name).set = true) : fieldsM (giveX (x0 S) (vP name true) (valsX (x0 S) (vP name true))) (ifsX (x0 S)) = [((getV S.l name).val, List.replicate (getV S.l name).val.length true)] := by
  have hN := h.nm name hs
  have hne : ∀ c : UInt8, V08.nameB [c] = false → name ≠ [c] := fun c hc e => by rw [e, hc] at hN; cases hN
  have n64 := hne 64 (by decide)
  have n42 := hne 42 (by decide)
  have n35 := hne 35 (by decide)
  have n63 := hne 63 (by decide)
  have hm : manyX (vP name true) = false := by
    unfold manyX
    show (decide (name = [64]) || decide (name = [42])) = false
    rw [decide_eq_false n64, decide_eq_false n42]; rfl
  have e : valsX (x0 S) (vP name true) = [(getV S.l name).val] := by
    unfold valsX
    rw [if_neg (by rw [hm]; decide)]
    show [(paramV S sh name).1] = _
    unfold paramV
    rw [if_neg n35, if_neg n63, if_neg (fun h => h.elim n64 n42), if_pos hN]
  rw [e]
  unfold giveX
  rw [if_neg (fun h => n42 h.1), brks_one]
  exact fields_quoted _ _
theorem q_at (h : QInv S j args) : fieldsM (giveX (x0 S) (vP [64] true) (valsX (x0 S) (vP [64] true))) (ifsX (x0 S)) = args.map fun a => (a, List.replicate a.length true) := by
  have e : valsX (x0 S) (vP [64] true) = args := by
    unfold valsX
    rw [if_pos (show manyX (vP [64] true) = true from rfl)]
    exact h.ar
  rw [e]
  unfold giveX
  rw [if_neg (fun h => by have := h.1; exact absurd this (by show ¬ ([64] : Str) = [42]; decide))]
  exact fields_brks _ _
end
abbrev shC (n v a : Value) (rd : Str) : List Value := [n, v, a, .string (bs rd)]
def FewS (names values args : List Str) (rd : Str) : Prop := TextsP names ∧ TextsP values ∧ TextsP args ∧ rd.length ≤ 200
section
variable {σ σ' : AS} {X : Ce} {R : List Ck} {k : Value → AS → Prop} {g i v0 : Nat} {o : Go.Obj} {nv vv av fv w : Value} {names values args : List Str} {rd t : Str}
theorem fews_c (h : Hs σ X R) (hn : RepL X nv names) (hv : RepL X vv values) (ha : RepL X av args) (hk1 : ∀ σ', FewS names values args rd → Hs σ' X R → k (.bool true) σ') (hk0 : ∀ σ', Hs σ' X R → k (.bool false) σ') : kCall PG 19 [.agg (shC nv vv av rd).toArray] σ k := by
  obtain ⟨na, nc, rfl, _⟩ := hn.val
  obtain ⟨va, vc, rfl, _⟩ := hv.val
  obtain ⟨aa, ac, rfl, _⟩ := ha.val
  refine f19 ?_
  have h1 := h.new (cs := shC (.slice na names.length nc) (.slice va values.length vc) (.slice aa args.length ac) rd)
  (try simp -dsimp (disch := first|exact P5|fail) only [↓P1,P2,↓P4,Q1,Q2,Q3,Q4,Q5,Q6,Q7,Q8,Q9, F19, h1.obj])
  generalize hs1 : AS.new σ _ = s1 at h1 ⊢
  refine texts_c h1 hn (fun t1 => ?_) (by (try simp -dsimp (disch := first|exact P5|fail) only [↓P1,P2,↓P4,Q1,Q2,Q3,Q4,Q5,Q6,Q7,Q8,Q9]); exact hk0 _ h1.drop)
  (try simp -dsimp (disch := first|exact P5|fail) only [↓P1,P2,↓P4,Q1,Q2,Q3,Q4,Q5,Q6,Q7,Q8,Q9, h1.obj])
  refine texts_c h1 hv (fun t2 => ?_) (by (try simp -dsimp (disch := first|exact P5|fail) only [↓P1,P2,↓P4,Q1,Q2,Q3,Q4,Q5,Q6,Q7,Q8,Q9]); exact hk0 _ h1.drop)
  (try simp -dsimp (disch := first|exact P5|fail) only [↓P1,P2,↓P4,Q1,Q2,Q3,Q4,Q5,Q6,Q7,Q8,Q9, h1.obj])
  refine texts_c h1 ha (fun t3 => ?_) (by (try simp -dsimp (disch := first|exact P5|fail) only [↓P1,P2,↓P4,Q1,Q2,Q3,Q4,Q5,Q6,Q7,Q8,Q9]); exact hk0 _ h1.drop)
  (try simp -dsimp (disch := first|exact P5|fail) only [↓P1,P2,↓P4,Q1,Q2,Q3,Q4,Q5,Q6,Q7,Q8,Q9, h1.obj])
  by_cases hr : rd.length ≤ 200
  · have e : (rd.length : Int) ≤ 200 := by omega
    rw [decide_eq_true e]
    exact hk1 _ ⟨t1, t2, t3, hr⟩ h1.drop
  · have e : ¬ (rd.length : Int) ≤ 200 := by omega
    rw [decide_eq_false e]
    exact hk0 _ h1.drop
theorem quoted_c (h : Hs σ X R) (hw : RepL X w (List.replicate t.length true)) (ht : t.length ≤ 1000000) (hk : ∀ σ', Hs σ' X R → k (.bool true) σ') : kCall PG 23 [.agg [.string (bs t), w].toArray] σ k := by
  obtain ⟨wa, wb, wo, wc, rfl, _, wm, wat⟩ := bool_at hw
  rw [List.length_replicate] at *
  refine f23 ?_
  have h1 := h.new (cs := [.string (bs t), .slice wa t.length wc])
  (try simp -dsimp (disch := first|exact P5|fail) only [↓P1,P2,↓P4,Q1,Q2,Q3,Q4,Q5,Q6,Q7,Q8,Q9, F23])
  generalize hs1 : AS.new σ _ = s1 at h1 ⊢
  generalize σ.n = p4 at h1 ⊢
  refine join_by fun J1 hJ1 => ?_
  refine loop_inv (fun nn xs s2 => ∃ j : Nat, xs = [.int .i64 j] ∧ j ≤ t.length ∧ s1 = s2 ∧ nn = t.length - j) _ ⟨0, rfl, Nat.zero_le _, rfl, rfl⟩ ?_
  rintro _ _ s2 again ⟨j, rfl, hj, rfl, rfl⟩ hag
  (try simp -dsimp (disch := first|exact P5|fail) only [↓P1,P2,↓P4,Q1,Q2,Q3,Q4,Q5,Q6,Q7,Q8,Q9])
  refine join_by fun J3 hJ3 => ?_
  by_cases hlt : j < t.length
  · obtain ⟨rfl, c0⟩ := wat j (by rw [List.length_replicate]; exact hlt)
    rw [List.getElem_replicate] at c0
    have d0 := h1.ldx c0
    have j1 : (j : Int) < (t.length : Int) := by omega
    (try simp -dsimp (disch := first|exact P5|fail) only [↓P1,P2,↓P4,Q1,Q2,Q3,Q4,Q5,Q6,Q7,Q8,Q9, h1.obj, j1])
    refine hJ3 _ _ ?_
    clear hJ3
    (try simp -dsimp (disch := first|exact P5|fail) only [↓P1,P2,↓P4,Q1,Q2,Q3,Q4,Q5,Q6,Q7,Q8,Q9])
    refine join_by fun J4 hJ4 => ?_
    (try simp -dsimp (disch := first|exact P5|fail) only [↓P1,P2,↓P4,Q1,Q2,Q3,Q4,Q5,Q6,Q7,Q8,Q9, h1.obj, j1, d0])
    refine hJ4 _ _ ?_
    (try simp -dsimp (disch := first|exact P5|fail) only [↓P1,P2,↓P4,Q1,Q2,Q3,Q4,Q5,Q6,Q7,Q8,Q9])
    exact hag _ _ _ ⟨j + 1, rfl, hlt, rfl, rfl⟩ (by omega)
  · obtain rfl : j = t.length := by omega
    (try simp -dsimp (disch := first|exact P5|fail) only [↓P1,P2,↓P4,Q1,Q2,Q3,Q4,Q5,Q6,Q7,Q8,Q9, h1.obj])
    refine hJ1 _ _ ?_
    (try simp -dsimp (disch := first|exact P5|fail) only [↓P1,P2,↓P4,Q1,Q2,Q3,Q4,Q5,Q6,Q7,Q8,Q9, h1.obj])
    exact hk _ h1.drop
end
end Go.Proofs.YtdlimikcgdgfpaaGreatDoor
namespace Go.Proofs.YtdlimikcgdgfpaaGreatDoor
open Tryz renaming prog → PG
open E renaming preR → P1, postR → P2, w_join → P3, w_stop → P4, dsc → P5
open E Go.Lib S09 G02 V08 W05
section
variable {σ σ' : AS} {X : Ce} {R : List Ck} {k : Value → AS → Prop} {g i v0 : Nat} {o : Go.Obj} {nv vv av fv w : Value} {names values args : List Str} {rd t : Str}
theorem made_c (h : Hs σ X R) (hn : RepL X nv names) (hv : RepL X vv values) (ha : RepL X av args) (hF : FewS names values args rd) (hk : ∀ v r S j σ', QInv S j args → j ≤ 30 → Hs σ' X (Vm v sh S :: R) → k (.tuple #[pw v, pw r]) σ') :
    kCall PG 20 [.agg (shC nv vv av rd).toArray] σ k := by
  have hm : ∀ n : Nat, n ≤ 1000 → n ≤ maxLen := fun n h => by unfold maxLen; omega
  obtain ⟨t1, t2, t3, t4⟩ := hF
  obtain ⟨na, nb, no, nc, rfl, _, nm, nat⟩ := str_at hn
  obtain ⟨va, vb, vo, vc, rfl, _, vm, vat⟩ := str_at hv
  obtain ⟨aa, ac, rfl, _⟩ := ha.val
  unfold maxLen at nm vm
  refine f20 ?_
  have h1 := h.new (cs := shC (.slice na names.length nc) (.slice va values.length vc) (.slice aa args.length ac) rd)
  (try simp -dsimp (disch := first|exact P5|fail) only [↓P1,P2,↓P4,Q1,Q2,Q3,Q4,Q5,Q6,Q7,Q8,Q9, F20, h1.obj])
  generalize hs1 : AS.new σ _ = s1 at h1 ⊢
  generalize σ.n = p1 at h1 ⊢
  refine vnew_c (zero := sh) h1 (TxS.rep h1 ha) (by have := t3.1; omega) fun v s2 h2 => ?_
  (try simp -dsimp (disch := first|exact P5|fail) only [↓P1,P2,↓P4,Q1,Q2,Q3,Q4,Q5,Q6,Q7,Q8,Q9, h2.obj1])
  have h3 : Hs _ X (Cel s2.n [.slice none 0 0, .string (bs sh), .slice aa args.length ac, .int .i64 0] :: Vm v sh ⟨args, 0, []⟩ :: Cel p1 _ :: R) := h2.new
  have h4 : Hs (s2.new (.cells [.slice none 0 0, .string (bs sh), .slice aa args.length ac, .int .i64 0])) X (VarR nilR (allV (⟨args, 0, []⟩ : VM).l) :: Cel s2.n [nilR, .string (bs sh), .slice aa args.length ac, .int .i64 0] :: Vm v sh ⟨args, 0, []⟩ :: Cel p1 (shC (.slice na names.length nc) (.slice va values.length vc) (.slice aa args.length ac) rd) :: R) := by
    rw [show allV (⟨args, 0, []⟩ : VM).l = [] from by simp [allV, listV, sortS]]
    exact VarR.own (L := []) h3.own0
  generalize hs3 : AS.new s2 _ = s3 at h4 ⊢
  clear h3
  generalize s2.n = r at h4 ⊢
  refine join_by fun J1 hJ1 => ?_
  have fin : ∀ S j lv s4, QInv S j args → j ≤ 20 → Hs s4 X (VarR lv (allV S.l) :: Cel r [lv, .string (bs sh), .slice aa args.length ac, .int .i64 0] :: Vm v sh S :: Cel p1 (shC (.slice na names.length nc) (.slice va values.length vc) (.slice aa args.length ac) rd) :: R) → J1 [] s4 := by
    intro S j lv s4 hQ hj h5
    refine hJ1 _ _ ?_
    clear hJ1
    have h6 := h5.front 2 rfl
    (try simp -dsimp (disch := first|exact P5|fail) only [↓P1,P2,↓P4,Q1,Q2,Q3,Q4,Q5,Q6,Q7,Q8,Q9, (h5.front 3 rfl).obj])
    have nd := Vm.nd' h6
    refine ro_c (n := rd) h6 (hm _ (by omega)) fun s5 h7 => ?_
    have nd' := Vm.nd' h7
    have h8 := h7.front 3 rfl
    (try simp -dsimp (disch := first|exact P5|fail) only [↓P1,P2,↓P4,Q1,Q2,Q3,Q4,Q5,Q6,Q7,Q8,Q9, h8.obj])
    have hP : NmP S (markV S rd true).2 := ⟨hQ.v.all, by have := hQ.v.len; omega, nd, nd'⟩
    have h9 : Hs s5 X (RfL lv r sh (.slice aa args.length ac) 0 (allV S.l) (Vm v sh (roV S rd).2 :: Cel p1 (shC (.slice na names.length nc) (.slice va values.length vc) (.slice aa args.length ac) rd) :: R)) := h7.un2
    refine rmark_c (w := true) hP (hm _ (by omega)) (hm _ (by have := hQ.v.getv rd; omega)) h9 fun lv' s6 h10 => ?_
    (try simp -dsimp (disch := first|exact P5|fail) only [↓P1,P2,↓P4,Q1,Q2,Q3,Q4,Q5,Q6,Q7,Q8,Q9])
    refine hk v r _ (j + 1) _ ?_ (by omega) h10.drop.drop.swap.drop
    exact hQ.turn t4 (hQ.v.getv rd) (fun _ => .inr trivial)
  clear hJ1 hk
  refine loop_inv (fun nn xs s4 => ∃ (j : Nat) (S : VM) (lv : Value), xs = [.int .i64 j] ∧ j ≤ names.length ∧ j ≤ values.length ∧ QInv S j args ∧ Hs s4 X (VarR lv (allV S.l) :: Cel r [lv, .string (bs sh), .slice aa args.length ac, .int .i64 0] :: Vm v sh S :: Cel p1 (shC (.slice na names.length nc) (.slice va values.length vc) (.slice aa args.length ac) rd) :: R) ∧ nn = names.length - j) _
    ⟨0, ⟨args, 0, []⟩, _, rfl, Nat.zero_le _, Nat.zero_le _, ⟨⟨Nat.le_refl _, t3.1, fun n x h => by cases h⟩, rfl, rfl, fun n h => by cases h⟩, h4, rfl⟩ ?_
  rintro _ _ s4 again ⟨j, S, lv, rfl, hj1, hj2, hQ, h5, rfl⟩ hag
  have o3 := (h5.front 3 rfl).obj
  have n20 := t1.1
  (try simp -dsimp (disch := first|exact P5|fail) only [↓P1,P2,↓P4,Q1,Q2,Q3,Q4,Q5,Q6,Q7,Q8,Q9, o3])
  refine join_by fun J3 hJ3 => ?_
  by_cases hlt : j < names.length
  · by_cases hlt2 : j < values.length
    · have c1 : (j : Int) < (names.length : Int) := by omega
      have c2 : (j : Int) < (values.length : Int) := by omega
      obtain ⟨rfl, n0, nl⟩ := nat j hlt
      obtain ⟨rfl, w0, wl⟩ := vat j hlt2
      have hn2 := t1.2 _ (List.getElem_mem hlt)
      have hv2 := t2.2 _ (List.getElem_mem hlt2)
      have d0 := h5.ldx n0
      have d1 := h5.ldx w0
      (try simp -dsimp (disch := first|exact P5|fail) only [↓P1,P2,↓P4,Q1,Q2,Q3,Q4,Q5,Q6,Q7,Q8,Q9, o3, c1, c2])
      refine hJ3 _ _ ?_
      clear hJ3
      (try simp -dsimp (disch := first|exact P5|fail) only [↓P1,P2,↓P4,Q1,Q2,Q3,Q4,Q5,Q6,Q7,Q8,Q9])
      refine join_by fun J4 hJ4 => ?_
      (try simp -dsimp (disch := first|exact P5|fail) only [↓P1,P2,↓P4,Q1,Q2,Q3,Q4,Q5,Q6,Q7,Q8,Q9, o3, c1, c2, d0, d1])
      have h6 := h5.front 2 rfl
      have nd := Vm.nd' h6
      refine set_c (n := names[j]) (val := values[j]) h6 nl fun s5 h7 => ?_
      have nd' := Vm.nd' h7
      have h8 := h7.front 3 rfl
      have d2 := h7.ldx n0
      have d3 := h7.ldx w0
      (try simp -dsimp (disch := first|exact P5|fail) only [↓P1,P2,↓P4,Q1,Q2,Q3,Q4,Q5,Q6,Q7,Q8,Q9, h8.obj, c1, c2, d2, d3])
      have hP : NmP S (setV S names[j] values[j]).2 := ⟨hQ.v.all, by have := hQ.v.len; omega, nd, nd'⟩
      have h9 : Hs s5 X (RfL lv r sh (.slice aa args.length ac) 0 (allV S.l) (Vm v sh (setV S names[j] values[j]).2 :: Cel p1 (shC (.slice (some ⟨nb, no, none⟩) names.length nc) (.slice (some ⟨vb, vo, none⟩) values.length vc) (.slice aa args.length ac) rd) :: R)) := h7.un2
      refine rset_c hP nl wl h9 fun lv' s6 h10 => ?_
      (try simp -dsimp (disch := first|exact P5|fail) only [↓P1,P2,↓P4,Q1,Q2,Q3,Q4,Q5,Q6,Q7,Q8,Q9])
      refine hJ4 _ _ ?_
      (try simp -dsimp (disch := first|exact P5|fail) only [↓P1,P2,↓P4,Q1,Q2,Q3,Q4,Q5,Q6,Q7,Q8,Q9])
      exact hag _ _ _ ⟨j + 1, (setV S names[j] values[j]).2, lv', rfl, hlt, hlt2, hQ.turn hn2 hv2 (fun _ => .inr trivial), h10, rfl⟩ (by omega)
    · obtain rfl : j = values.length := by omega
      have c1 : (values.length : Int) < (names.length : Int) := by omega
      (try simp -dsimp (disch := first|exact P5|fail) only [↓P1,P2,↓P4,Q1,Q2,Q3,Q4,Q5,Q6,Q7,Q8,Q9, o3, c1])
      exact fin S _ lv _ hQ (by omega) h5
  · obtain rfl : j = names.length := by omega
    (try simp -dsimp (disch := first|exact P5|fail) only [↓P1,P2,↓P4,Q1,Q2,Q3,Q4,Q5,Q6,Q7,Q8,Q9, o3])
    exact fin S _ lv _ hQ (by omega) h5
theorem quotes_walk {name : Str} (L : A03.Law X g o) (h : Hs σ X [Oth g o]) (hn : RepL X nv names) (hv : RepL X vv values) (ha : RepL X av args) (hrd : rd.length ≤ maxLen) (hnm : name.length ≤ maxLen) (hk : ∀ X' σ', Ce.le X X' → Hs σ' X' [Oth g o] → k (.bool true) σ') :
    kCall PG 6 [.agg (shC nv vv av rd).toArray, .string (bs name)] σ k := by
  have hm : ∀ n : Nat, n ≤ 1000 → n ≤ maxLen := fun n h => by unfold maxLen; omega
  unfold maxLen at hrd hnm
  obtain ⟨na, nc, rfl, _⟩ := hn.val
  obtain ⟨va, vc, rfl, _⟩ := hv.val
  obtain ⟨aa, ab, ao, ac, rfl, acap, am, aat⟩ := str_at ha
  unfold maxLen at am
  refine f6 ?_
  have h1 := h.new (cs := shC (.slice na names.length nc) (.slice va values.length vc) (.slice aa args.length ac) rd)
  (try simp -dsimp (disch := first|exact P5|fail) only [↓P1,P2,↓P4,Q1,Q2,Q3,Q4,Q5,Q6,Q7,Q8,Q9, F6])
  generalize hs1 : AS.new σ _ = s1 at h1 ⊢
  generalize σ.n = p1 at h1 ⊢
  clear hs1 h
  refine join_by fun J1 hJ1 => ?_
  have big : ∀ s2, Hs s2 X (Cel p1 (shC (.slice na names.length nc) (.slice va values.length vc) (.slice aa args.length ac) rd) :: [Oth g o]) → kCall PG 11 [] s2 fun v29 s => k v29 s := fun s2 h2 => awake_x L (i := 0) rfl h2.drop fun X2 s3 le2 h3 => hk _ _ le2 h3
  (try simp -dsimp (disch := first|exact P5|fail) only [↓P1,P2,↓P4,Q1,Q2,Q3,Q4,Q5,Q6,Q7,Q8,Q9, h1.obj])
  refine fews_c h1 hn hv ha (fun s2 hF h2 => ?_) (fun s2 h2 => by (try simp -dsimp (disch := first|exact P5|fail) only [↓P1,P2,↓P4,Q1,Q2,Q3,Q4,Q5,Q6,Q7,Q8,Q9]); exact big _ h2)
  by_cases hnl : name.length ≤ 200
  rotate_left
  · have e : (200 : Int) < (name.length : Int) := by omega
    (try simp -dsimp (disch := first|exact P5|fail) only [↓P1,P2,↓P4,Q1,Q2,Q3,Q4,Q5,Q6,Q7,Q8,Q9, e])
    exact big _ h2
  have e : ¬ (200 : Int) < (name.length : Int) := by omega
  (try simp -dsimp (disch := first|exact P5|fail) only [↓P1,P2,↓P4,Q1,Q2,Q3,Q4,Q5,Q6,Q7,Q8,Q9, e])
  refine hJ1 _ _ ?_
  clear hJ1 big
  (try simp -dsimp (disch := first|exact P5|fail) only [↓P1,P2,↓P4,Q1,Q2,Q3,Q4,Q5,Q6,Q7,Q8,Q9, h2.obj])
  refine made_c h2 hn hv ha hF fun q r S j s3 hQ hj h3 => ?_
  have hT := hF.2.2.1
  have n20 := hT.1
  have hA20 : S.ar.length ≤ 1000000 := by rw [hQ.ar]; omega
  (try simp -dsimp (disch := first|exact P5|fail) only [↓P1,P2,↓P4,Q1,Q2,Q3,Q4,Q5,Q6,Q7,Q8,Q9])
  refine get_c h3 fun s4 h4 => ?_
  obtain ⟨val, hval⟩ : ∃ val, val = (getV S.l name).val := ⟨_, rfl⟩
  obtain ⟨is, his⟩ : ∃ is, is = (getV S.l name).set := ⟨_, rfl⟩
  have hvl : val.length ≤ 200 := by rw [hval]; exact hQ.v.getv name
  have hset : is = true → fieldsM (giveX (x0 S) (vP name true) (valsX (x0 S) (vP name true))) (ifsX (x0 S)) = [(val, List.replicate val.length true)] := fun h => by
    rw [hval]; exact q_set hQ (by rw [← his]; exact h)
  have hrun := q_run (g := g) (o := o) hQ hT hnl
  rw [← hval, ← his]
  generalize fieldsM (giveX (x0 S) (vP name true) (valsX (x0 S) (vP name true))) (ifsX (x0 S)) = fs1 at hset hrun
  (try simp -dsimp (disch := first|exact P5|fail) only [↓P1,P2,↓P4,Q1,Q2,Q3,Q4,Q5,Q6,Q7,Q8,Q9])
  refine v_c h4 fun s5 h5 => ?_
  refine mk_pt h5 (ptOk (k := 2) (o := 0) (q := true) (c := false) (t := name) (hm _ (by omega)) (by decide) (by decide)) fun u1 X2 s6 le2 r2 h6 => ?_
  refine mk_w h6 r2 fun u2 X3 s7 le3 r3 h7 => ?_
  have le23 := Ce.le_trans le2 le3
  refine expand_c (i := 1) (L.mono le23) rfl (nil_rep X3) r3 (by show (1 : Nat) ≤ 1000; omega) hA20 hrun h7 fun X4 fa q1 s8 le4 r4 h8 => ?_
  obtain ⟨fa', fb, fo, fc, rfl, _, fm, fat⟩ := fld_at r4
  refine take_res (fn := fs1.length) (w := false) (nd := []) (us := 0) (ms := []) (e := 0) h8.drop fun ca s9 h9 => ?_
  have le24 := Ce.le_trans le23 le4
  (try simp -dsimp (disch := first|exact P5|fail) only [↓P1,P2,↓P4,Q1,Q2,Q3,Q4,Q5,Q6,Q7,Q8,Q9])
  refine join_by fun J2 hJ2 => ?_
  have t2 : ∀ s10, Hs s10 X4 (Cel ca (rsC (.slice fa' fs1.length fc) (pw q1) false [] 0 []) :: Vm q sh S :: Cel p1 (shC (.slice na names.length nc) (.slice va values.length vc) (.slice aa args.length ac) rd) :: [Oth g o]) → J2 [] s10 := by
    intro s10 h10
    refine hJ2 _ _ ?_
    clear hJ2
    (try simp -dsimp (disch := first|exact P5|fail) only [↓P1,P2,↓P4,Q1,Q2,Q3,Q4,Q5,Q6,Q7,Q8,Q9])
    refine v_c h10 fun s11 h11 => ?_
    refine mk_pt h11 (ptOk (k := 2) (o := 0) (q := true) (c := false) (t := [64]) (hm _ (by decide)) (by decide) (by decide)) fun u3 X5 s12 le5 r5 h12 => ?_
    refine mk_w h12 r5 fun u4 X6 s13 le6 r6 h13 => ?_
    have le26 := Ce.le_trans le24 (Ce.le_trans le5 le6)
    have hrun2 := q_run (g := g) (o := o) (name := [64]) hQ hT (by decide)
    rw [q_at hQ] at hrun2
    refine expand_c (i := 2) (L.mono le26) rfl (nil_rep X6) r6 (by show (1 : Nat) ≤ 1000; omega) hA20 hrun2 h13.swap fun X7 fb2 q2 s14 le7 r7 h14 => ?_
    obtain ⟨ga, gb, go, gc, rfl, _, gm, gat⟩ := fld_at r7
    rw [List.length_map]
    refine take_res (fn := args.length) (w := false) (nd := []) (us := 0) (ms := []) (e := 0) h14.drop fun cb s15 h15 => ?_
    have le27 := Ce.le_trans le26 le7
    (try simp -dsimp (disch := first|exact P5|fail) only [↓P1,P2,↓P4,Q1,Q2,Q3,Q4,Q5,Q6,Q7,Q8,Q9])
    refine join_by fun J3 hJ3 => ?_
    have o3 := h15.obj3
    (try simp -dsimp (disch := first|exact P5|fail) only [↓P1,P2,↓P4,Q1,Q2,Q3,Q4,Q5,Q6,Q7,Q8,Q9, h15.obj, o3])
    refine hJ3 _ _ ?_
    clear hJ3
    (try simp -dsimp (disch := first|exact P5|fail) only [↓P1,P2,↓P4,Q1,Q2,Q3,Q4,Q5,Q6,Q7,Q8,Q9])
    refine join_by fun J4 hJ4 => ?_
    have fin : ∀ s16, Hs s16 X7 (Cel cb (rsC (.slice ga args.length gc) (pw q2) false [] 0 []) :: Vm q sh S :: Cel ca (rsC (.slice fa' fs1.length fc) (pw q1) false [] 0 []) :: Cel p1 (shC (.slice na names.length nc) (.slice va values.length vc) (.slice aa args.length ac) rd) :: [Oth g o]) → J4 [] s16 := by
      intro s16 h16
      refine hJ4 _ _ ?_
      (try simp -dsimp (disch := first|exact P5|fail) only [↓P1,P2,↓P4,Q1,Q2,Q3,Q4,Q5,Q6,Q7,Q8,Q9])
      refine awake_x (L.mono le27) (i := 0) rfl h16.drop.drop.drop.drop fun X8 s17 le8 h17 => ?_
      (try simp -dsimp (disch := first|exact P5|fail) only [↓P1,P2,↓P4,Q1,Q2,Q3,Q4,Q5,Q6,Q7,Q8,Q9])
      exact hk _ _ (Ce.le_trans le27 le8) h17
    clear hJ4
    refine loop_inv (fun nn xs s16 => ∃ j : Nat, xs = [.int .i64 j] ∧ j ≤ args.length ∧ Hs s16 X7 (Cel cb (rsC (.slice ga args.length gc) (pw q2) false [] 0 []) :: Vm q sh S :: Cel ca (rsC (.slice fa' fs1.length fc) (pw q1) false [] 0 []) :: Cel p1 (shC (.slice na names.length nc) (.slice va values.length vc) (.slice aa args.length ac) rd) :: [Oth g o]) ∧ nn = args.length - j) _ ⟨0, rfl, Nat.zero_le _, h15, rfl⟩ ?_
    rintro _ _ s16 again ⟨j2, rfl, hj2, h16, rfl⟩ hag
    have p3 := h16.obj3
    (try simp -dsimp (disch := first|exact P5|fail) only [↓P1,P2,↓P4,Q1,Q2,Q3,Q4,Q5,Q6,Q7,Q8,Q9, p3])
    refine join_by fun J6 hJ6 => ?_
    by_cases hlt : j2 < args.length
    · obtain ⟨rfl, a0, al⟩ := aat j2 hlt
      obtain ⟨rfl, _, g0, gw, g1, grw⟩ := gat j2 (by rw [List.length_map]; exact hlt)
      rw [List.getElem_map] at g0 grw
      have a200 := hT.2 _ (List.getElem_mem hlt)
      have d0 := h16.ldx (le27 _ _ _ a0)
      have d1 := h16.ldx g0
      have d2 := h16.ldx g1
      obtain ⟨wa, wc, rfl, _⟩ := grw.val
      have j1 : (j2 : Int) < (args.length : Int) := by omega
      (try simp -dsimp (disch := first|exact P5|fail) only [↓P1,P2,↓P4,Q1,Q2,Q3,Q4,Q5,Q6,Q7,Q8,Q9, p3, j1])
      refine hJ6 _ _ ?_
      clear hJ6
      (try simp -dsimp (disch := first|exact P5|fail) only [↓P1,P2,↓P4,Q1,Q2,Q3,Q4,Q5,Q6,Q7,Q8,Q9])
      refine join_by fun J7 hJ7 => ?_
      (try simp -dsimp (disch := first|exact P5|fail) only [↓P1,P2,↓P4,Q1,Q2,Q3,Q4,Q5,Q6,Q7,Q8,Q9, h16.obj, p3, j1, d0, d1, d2])
      refine quoted_c h16 grw (by omega) fun s17 h17 => ?_
      (try simp -dsimp (disch := first|exact P5|fail) only [↓P1,P2,↓P4,Q1,Q2,Q3,Q4,Q5,Q6,Q7,Q8,Q9])
      refine hJ7 _ _ ?_
      (try simp -dsimp (disch := first|exact P5|fail) only [↓P1,P2,↓P4,Q1,Q2,Q3,Q4,Q5,Q6,Q7,Q8,Q9])
      exact hag _ _ _ ⟨j2 + 1, rfl, hlt, h17, rfl⟩ (by omega)
    · obtain rfl : j2 = args.length := by omega
      (try simp -dsimp (disch := first|exact P5|fail) only [↓P1,P2,↓P4,Q1,Q2,Q3,Q4,Q5,Q6,Q7,Q8,Q9, p3])
      exact fin _ h16
  clear hJ2
  cases is with
  | false =>
    (try simp -dsimp (disch := first|exact P5|fail) only [↓P1,P2,↓P4,Q1,Q2,Q3,Q4,Q5,Q6,Q7,Q8,Q9])
    exact t2 _ h9
  | true =>
    obtain rfl := hset rfl
    obtain ⟨rfl, _, c0, w, c1, rw1⟩ := fat 0 (by simp)
    replace c0 : X4 fb fo = some (.string (bs val)) := c0
    replace c1 : X4 fb (fo + 1) = some w := by rw [← c1]
    replace rw1 : RepL X4 w (List.replicate val.length true) := rw1
    have d0 := h9.ldx c0
    have d1 := h9.ldx c1
    obtain ⟨wa, wc, rfl, _⟩ := rw1.val
    (try simp -dsimp (disch := first|exact P5|fail) only [↓P1,P2,↓P4,Q1,Q2,Q3,Q4,Q5,Q6,Q7,Q8,Q9, h9.obj, d0, d1])
    refine quoted_c h9 rw1 (by omega) fun s10 h10 => ?_
    (try simp -dsimp (disch := first|exact P5|fail) only [↓P1,P2,↓P4,Q1,Q2,Q3,Q4,Q5,Q6,Q7,Q8,Q9])
    exact t2 _ h10
theorem arg_shell {c : Ce} {v : Value} (A : OV c (shOf PG 8 51) v) : ∃ n vs a : Value, ∃ (names values args : List Str) (rd : Str), v = .agg (shC n vs a rd).toArray ∧ RepL c n names ∧ RepL c vs values ∧ RepL c a args ∧ rd.length ≤ maxLen := by
  rw [show shOf PG 8 51 = .fld 1 (.slice .str 1) (.fld 1 (.slice .str 1) (.fld 1 (.slice .str 1) (.fld 1 .str .fin))) from by kernel_rfl] at A
  obtain ⟨cs, rfl, x1, y1, rfl, _, h1, x2, y2, rfl, _, h2, x3, y3, rfl, _, h3, x4, y4, rfl, _, h4, rfl⟩ := A
  obtain ⟨a1, n1, c1, f1, rfl, g1⟩ := h1
  obtain ⟨a2, n2, c2, f2, rfl, g2⟩ := h2
  obtain ⟨a3, n3, c3, f3, rfl, g3⟩ := h3
  obtain ⟨rd, rfl, hr⟩ := h4
  obtain ⟨l1, r1⟩ := arg_list (α := Str) (c := c) (v := .slice a1 n1 c1) (e := .str) (m := 1) ⟨a1, n1, c1, f1, rfl, g1⟩
  obtain ⟨l2, r2⟩ := arg_list (α := Str) (c := c) (v := .slice a2 n2 c2) (e := .str) (m := 1) ⟨a2, n2, c2, f2, rfl, g2⟩
  obtain ⟨l3, r3⟩ := arg_list (α := Str) (c := c) (v := .slice a3 n3 c3) (e := .str) (m := 1) ⟨a3, n3, c3, f3, rfl, g3⟩
  exact ⟨_, _, _, l1, l2, l3, rd, rfl, r1, r2, r3, hr⟩
theorem quotes_law {W : World} {te te2 : Nat} {pe pe2 v0 v1 : Value} (T : VarAt PG "internal/strconv.uint64pow10" g o powV) (ho : W.heap[g]? = some o) (hE : W.cell? ⟨5, 0, none⟩ = some (.iface te pe)) (hS : W.cell? ⟨4, 0, none⟩ = some (.iface te2 pe2))
    (A0 : OV (E.start W).c (shOf PG 8 51) v0) (A1 : OV (E.start W).c (shOf PG 8 9) v1) : callP PG 6 [v0, v1] W fun v w' => v = .bool true ∧ KeepP (fun _ => False) W w' := by
  rw [show shOf PG 8 9 = .str from by kernel_rfl] at A1
  obtain ⟨n, vs, a, names, values, args, rd, rfl, r1, r2, r3, hr⟩ := arg_shell A0
  obtain ⟨name, rfl, hn⟩ := arg_str A1
  have g1 := r1.offT (gs := [g]) (fun g' i v hg hv => pow_no T ho hg hv)
  have g2 := r2.offT (gs := [g]) (fun g' i v hg hv => pow_no T ho hg hv)
  have g3 := r3.offT (gs := [g]) (fun g' i v hg hv => pow_no T ho hg hv)
  exact A03.law_st T ho hE hS fun σ L h => quotes_walk L h g1 g2 g3 hr hn fun X' σ' _ h' => ⟨rfl, X', h'⟩
end
end Go.Proofs.YtdlimikcgdgfpaaGreatDoor
