/- Patterns: the reference's Front and Back; the examples. Conditions: as each theorem says. -/
import Derived.Test.YtdlimikcgdgfpaaGreatDoorY3
import Derived.Test.YtdlimikcgdgfpaaGreatDoorY5
import Derived.Test.YtdlimikcgdgfpaaGreatDoorY2
set_option linter.unusedVariables false
set_option linter.unusedSimpArgs false
set_option maxHeartbeats 4000000
set_option maxRecDepth 100000
open Nat renaming reduceEqDiff → Q1, reduceAdd → Q2, reduceSub → Q3, reduceMul → Q4, reduceLT → Q5, reduceLeDiff → Q6, sub_zero → Q7
open Int renaming reduceNeg → Q8, reduceToNat → Q9
namespace Go.Proofs.YtdlimikcgdgfpaaGreatDoor.G02
open E Go.Lib
section
variable {σ σ' : AS} {X : Ce} {R : List Ck} {k : Value → AS → Prop} {l a b : List Tok} {u v va vb : Value} {s : Str} {longest : Bool}
theorem frontL_eq (l : List Tok) (s : Str) (longest : Bool) : frontL l s longest = pick (fun n => matchL l (s.take n)) longest (s.length + 1) :=
  pick_congr fun i hi => by rw [reachL_get (by omega), matchL_eq]
end
end Go.Proofs.YtdlimikcgdgfpaaGreatDoor.G02
namespace Go.Proofs.YtdlimikcgdgfpaaGreatDoor
open E Go.Lib S09 G02 V08 W05
def restX (back : Bool) (v : Str) (n : Nat) : Str := if back = true then v.take (v.length - n) else v.drop n
def goneX (back : Bool) (v : Str) (n : Nat) : Str := if back = true then v.drop (v.length - n) else v.take n
def fitX (back : Bool) (l : List G02.Tok) (v : Str) (n : Nat) : Bool := matchL l (goneX back v n)
def cutN (back longest : Bool) (l : List G02.Tok) (v : Str) : Nat := (pick (fitX back l v) longest (v.length + 1)).toNat
theorem rest_len {back : Bool} {v : Str} {n : Nat} (h : n ≤ v.length) : (restX back v n).length = v.length - n := by
  unfold restX
  split
  · rw [List.length_take]; omega
  · rw [List.length_drop]
theorem gone_len {back : Bool} {v : Str} {n : Nat} : (goneX back v n).length ≤ v.length := by
  unfold goneX
  split
  · rw [List.length_drop]; omega
  · rw [List.length_take]; omega
theorem rest_inj {back : Bool} {v : Str} {n m : Nat} (h : n ≤ v.length) (hm : m ≤ v.length) : (restX back v n = restX back v m) = (n = m) := by
  rw [eq_iff_iff]
  refine ⟨fun e => ?_, fun e => by rw [e]⟩
  have := congrArg List.length e
  rw [rest_len h, rest_len hm] at this
  omega
theorem rest_zero (back : Bool) (v : Str) : restX back v 0 = v := by
  unfold restX
  split
  · rw [Nat.sub_zero, List.take_length]
  · rfl
theorem trim_rest (back longest : Bool) (l : List G02.Tok) (v : Str) : trimX ((if back = true then 8 else 6) + (if longest = true then 1 else 0)) l v = restX back v (cutN back longest l v) := by
  unfold trimX restX cutN fitX goneX
  cases back with
  | true =>
    have e : (if true = true then (8 : Int) else 6) + (if longest = true then 1 else 0) = if longest = true then 9 else 8 := by cases longest <;> rfl
    rw [e]
    cases longest <;> rfl
  | false =>
    have e : (if false = true then (8 : Int) else 6) + (if longest = true then 1 else 0) = if longest = true then 7 else 6 := by cases longest <;> rfl
    rw [e]
    cases longest with
    | true =>
      show (if (7 : Int) = 6 ∨ (7 : Int) = 7 then v.drop (frontL l v (decide ((7 : Int) = 7))).toNat else _) = _
      rw [if_pos (.inr rfl), frontL_eq]
      rfl
    | false =>
      show (if (6 : Int) = 6 ∨ (6 : Int) = 7 then v.drop (frontL l v (decide ((6 : Int) = 7))).toNat else _) = _
      rw [if_pos (.inl rfl), frontL_eq]
      rfl
structure CutF (P : Nat → Bool) (N n1 n2 : Nat) : Prop where
  h1 : n1 ≤ N
  h2 : n2 ≤ N
  le : n1 ≤ n2
  no : ∀ n, n ≤ N → P n = false → 0 < n → n ≠ n1 ∧ n ≠ n2
  yes : ∀ n, n ≤ N → P n = true → n ≤ n2 ∧ ((∀ m, m < n → P m = false) → n = n1)
  non : (∀ n, n ≤ N → P n = false) → n1 = 0 ∧ n2 = 0
theorem cut_f (P : Nat → Bool) (N : Nat) : CutF P N (pick P false (N + 1)).toNat (pick P true (N + 1)).toNat := by
  rcases pick_spec P false (N + 1) with ⟨a1, a2⟩ | ⟨i, a1, a2, a3, a4, _⟩
  · rcases pick_spec P true (N + 1) with ⟨b1, _⟩ | ⟨j, b1, b2, b3, _⟩
    · rw [a1, b1]
      exact ⟨Nat.zero_le _, Nat.zero_le _, Nat.le_refl _, fun n _ _ h => ⟨by show n ≠ 0; omega, by show n ≠ 0; omega⟩, fun n h1 h2 => (by have := a2 n (by omega); rw [h2] at this; cases this), fun _ => ⟨rfl, rfl⟩⟩
    · have := a2 j b1
      rw [b3] at this
      cases this
  · rcases pick_spec P true (N + 1) with ⟨_, b2⟩ | ⟨j, b1, b2, b3, _, b5⟩
    · have := b2 i a1
      rw [a3] at this
      cases this
    · rw [a2, b2, Int.toNat_natCast, Int.toNat_natCast]
      have hij : i ≤ j := by
        refine Classical.byContradiction fun h => ?_
        have := a4 rfl j (by omega)
        rw [b3] at this
        cases this
      refine ⟨by omega, by omega, hij, fun n _ hp _ => ⟨fun e => ?_, fun e => ?_⟩, fun n hn hp => ⟨?_, fun hm => ?_⟩, fun h => ?_⟩
      · rw [e, a3] at hp; cases hp
      · rw [e, b3] at hp; cases hp
      · refine Classical.byContradiction fun h => ?_
        have := b5 rfl n (by omega) (by omega)
        rw [hp] at this
        cases this
      · refine Classical.byContradiction fun h => ?_
        by_cases hlt : n < i
        · have := a4 rfl n hlt
          rw [hp] at this; cases this
        · have := hm i (by omega)
          rw [a3] at this; cases this
      · have := h i (by omega)
        rw [a3] at this; cases this
theorem cut_n (back : Bool) (l : List G02.Tok) (v : Str) : CutF (fitX back l v) v.length (cutN back false l v) (cutN back true l v) := cut_f _ _
abbrev cutS (v : Str) : VM := ⟨[], 0, [([120], ⟨v, true, false, false⟩)]⟩
theorem cut_set (v : Str) : setV ⟨[], 0, []⟩ [120] v = (0, cutS v) := rfl
theorem cut_inv (v : Str) : InvP (cutS v) := ⟨by show inI64 0; unfold inI64; omega, by show (0 : Nat) ≤ 20; omega, fun s hs => by cases hs⟩
theorem cut_get (v : Str) : paramV (cutS v) sh [120] = (v, true) := by
  unfold paramV
  rw [if_neg (by decide), if_neg (by decide), if_neg (by decide), if_pos (by decide)]
  rfl
abbrev cutP (op : Int) (pat : Str) : Pt := .mk 2 [120] false op false [litX pat]
theorem cut_k {g : Nat} {o : Go.Obj} {v pat : Str} {op : Int} (h1 : 6 ≤ op) (h2 : op ≤ 9) (hv : v.length ≤ 60) (hp : pat.length ≤ 60) :
    PcsK g o [] [cutP op pat] false (x0 (cutS v)) (x0 (cutS v)) [(trimX op (toks pat []) v, false, true, false)] := by
  have hV : VarC g o [] (cutP op pat) (x0 (cutS v)) (x0 (cutS v)) [(trimX op (toks pat []) v, false, true, false)] := by
    refine .inr (.inr ⟨h1, h2, rfl, _, lit_k (t := pat) (q := false) rfl, ?_, ?_⟩)
    · simp [many]; omega
    · rw [one_of, toks_plain, show (x0 (cutS v)).v = cutS v from rfl, show (cutP op pat).text = [120] from rfl, cut_get]
      rfl
  have hp : PartC g o [] (cutP op pat) false (x0 (cutS v)) (x0 (cutS v)) [(trimX op (toks pat []) v, false, true, false)] :=
    .inr (.inr (.inr (.inr ⟨rfl, var_one hV (cut_inv v) (by show (1 : Nat) ≤ 200; omega) (by show (paramV (cutS v) sh [120]).1.length ≤ _; rw [cut_get]; show v.length ≤ _; omega) (fun t ht => by
      have e : valsX (x0 (cutS v)) (cutP op pat) = [v] := by
        unfold valsX
        rw [show manyX (cutP op pat) = false from rfl, if_neg (by decide)]
        show [(paramV (cutS v) sh [120]).1] = [v]
        rw [cut_get]
      rw [e] at ht
      simp only [List.mem_singleton] at ht
      subst ht; omega), by show (1 : Nat) ≤ _; omega⟩)))
  exact @pcs_one g o _ _ _ _ _ _ hp rfl
end Go.Proofs.YtdlimikcgdgfpaaGreatDoor
namespace Go.Proofs.YtdlimikcgdgfpaaGreatDoor
open Tryz renaming prog → PG
open E renaming preR → P1, postR → P2, w_join → P3, w_stop → P4, dsc → P5
open E Go.Lib S09 G02 V08 W05
section
variable {σ σ' : AS} {X : Ce} {R : List Ck} {k : Value → AS → Prop} {g i v0 : Nat} {o : Go.Obj} {v pat : Str} {back : Bool}
theorem cuts_walk (L : A03.Law X g o) (h : Hs σ X [Oth g o]) (hv : v.length ≤ maxLen) (hp : pat.length ≤ maxLen) (hk : ∀ X' σ', Ce.le X X' → Hs σ' X' [Oth g o] → k (.bool true) σ') : kCall PG 4 [.string (bs v), .string (bs pat), .bool back] σ k := by
  have hm : ∀ n : Nat, n ≤ 1000 → n ≤ maxLen := fun n h => by unfold maxLen; omega
  unfold maxLen at hv hp
  refine f4 ?_
  (try simp -dsimp (disch := first|exact P5|fail) only [↓P1,P2,↓P4,Q1,Q2,Q3,Q4,Q5,Q6,Q7,Q8,Q9, F4])
  refine join_by fun J1 hJ1 => ?_
  have big : ¬ (v.length ≤ 60 ∧ pat.length ≤ 60) → kCall PG 11 [] σ fun v29 s => k v29 s := fun _ => awake_x L (i := 0) rfl h fun X2 s3 le2 h3 => hk _ _ le2 h3
  by_cases hv60 : v.length ≤ 60
  rotate_left
  · have e1 : (60 : Int) < (v.length : Int) := by omega
    (try simp -dsimp (disch := first|exact P5|fail) only [↓P1,P2,↓P4,Q1,Q2,Q3,Q4,Q5,Q6,Q7,Q8,Q9, e1])
    exact big (by omega)
  by_cases hp60 : pat.length ≤ 60
  rotate_left
  · have e1 : ¬ (60 : Int) < (v.length : Int) := by omega
    have e2 : (60 : Int) < (pat.length : Int) := by omega
    (try simp -dsimp (disch := first|exact P5|fail) only [↓P1,P2,↓P4,Q1,Q2,Q3,Q4,Q5,Q6,Q7,Q8,Q9, e1, e2])
    exact big (by omega)
  have e1 : ¬ (60 : Int) < (v.length : Int) := by omega
  have e2 : ¬ (60 : Int) < (pat.length : Int) := by omega
  (try simp -dsimp (disch := first|exact P5|fail) only [↓P1,P2,↓P4,Q1,Q2,Q3,Q4,Q5,Q6,Q7,Q8,Q9, e1, e2])
  refine hJ1 _ _ ?_
  clear hJ1 big
  (try simp -dsimp (disch := first|exact P5|fail) only [↓P1,P2,↓P4,Q1,Q2,Q3,Q4,Q5,Q6,Q7,Q8,Q9])
  refine vnew_c (zero := sh) h (TxS.rep h (nil_rep X)) (by decide) fun q s1 h1 => ?_
  (try simp -dsimp (disch := first|exact P5|fail) only [↓P1,P2,↓P4,Q1,Q2,Q3,Q4,Q5,Q6,Q7,Q8,Q9])
  refine set_c (S := ⟨[], 0, []⟩) (n := [120]) (val := v) h1 (hm _ (by decide)) fun s2 h2 => ?_
  rw [cut_set] at h2
  (try simp -dsimp (disch := first|exact P5|fail) only [↓P1,P2,↓P4,Q1,Q2,Q3,Q4,Q5,Q6,Q7,Q8,Q9])
  refine join_by fun J2 hJ2 => ?_
  obtain ⟨op, hop⟩ : ∃ op : Int, op = if back = true then 8 else 6 := ⟨_, rfl⟩
  have hr : 6 ≤ op ∧ op ≤ 8 := by cases back <;> simp at hop <;> omega
  have eo1 : op = (if back = true then 8 else 6) + (if false = true then 1 else 0) := by rw [hop]; cases back <;> rfl
  have eo2 : op + 1 = (if back = true then 8 else 6) + (if true = true then 1 else 0) := by rw [hop]; cases back <;> rfl
  have main : J2 [.int .i64 op] s2 := by
    refine hJ2 _ _ ?_
    clear hJ2
    refine mk_pt2 h2 (x := litX pat) (ptOk (k := 1) (o := 0) (q := false) (c := false) (t := pat) (hm _ (by omega)) (by decide) (by decide)) (fun K2 h => by (try simp -dsimp (disch := first|exact P5|fail) only [↓P1,P2,↓P4,Q1,Q2,Q3,Q4,Q5,Q6,Q7,Q8,Q9]); exact h) fun u1 X1 s3 le1 r1 h3 => ?_
    obtain ⟨ya, yc, rfl, _⟩ := r1.val
    refine mk_pt2 h3 (x := cutP op pat) (RpPt.made (hm _ (by show (1 : Nat) ≤ 1000; omega)) (by show inI64 2; unfold inI64; omega) (by show inI64 op; unfold inI64; omega) r1) (fun K2 h => by (try simp -dsimp (disch := first|exact P5|fail) only [↓P1,P2,↓P4,Q1,Q2,Q3,Q4,Q5,Q6,Q7,Q8,Q9]); exact h) fun u2 X2 s4 le2 r2 h4 => ?_
    have le12 := Ce.le_trans le1 le2
    have ck1 : PcsK g o [] [cutP op pat] false (x0 (cutS v)) (x0 (cutS v)) [(trimX op (toks pat []) v, false, true, false)] := cut_k (g := g) (o := o) (v := v) (pat := pat) hr.1 (by omega) hv60 hp60
    have ck2 : PcsK g o [] [cutP (op + 1) pat] false (x0 (cutS v)) (x0 (cutS v)) [(trimX (op + 1) (toks pat []) v, false, true, false)] := cut_k (g := g) (o := o) (v := v) (pat := pat) (op := op + 1) (by omega) (by omega) hv60 hp60
    generalize htk : toks pat [] = tk at ck1 ck2
    rw [eo1, trim_rest, ← eo1] at ck1
    rw [eo2, trim_rest, ← eo2] at ck2
    have cf := cut_n back tk v
    generalize hn1 : cutN back false tk v = n1 at ck1 cf
    generalize hn2 : cutN back true tk v = n2 at ck2 cf
    have l1 : (restX back v n1).length = v.length - n1 := rest_len cf.h1
    have l2 : (restX back v n2).length = v.length - n2 := rest_len cf.h2
    refine one_x (i := 0) (L.mono le12) rfl (nil_rep X2) r2 (by show (0 : Nat) ≤ 1000000; omega) ck1 (by simp [many]; omega) h4 fun X3 fa q1 s5 le3 r3 h5 => ?_
    rw [one_of] at r3
    obtain ⟨aa, ab, ao, ac, rfl, _, am, aat⟩ := fld_at r3
    obtain ⟨rfl, _, a0, _⟩ := aat 0 (by show 0 < 1; omega)
    replace a0 : X3 ab ao = some (.string (bs (restX back v n1))) := a0
    refine take_res (fn := 1) (w := false) (nd := []) (us := 0) (ms := []) (e := 0) h5.drop fun ca s6 h6 => ?_
    have ew : IntKind.i64.wrap (op + 1) = op + 1 := wrap64 _ (by omega) (by omega)
    have eg : gv [Value.int .i64 op] 0 = .int .i64 op := rfl
    (try simp -dsimp (disch := first|exact P5|fail) only [↓P1,P2,↓P4,Q1,Q2,Q3,Q4,Q5,Q6,Q7,Q8,Q9, eg, ew])
    obtain ⟨X4, le4, r4, h7⟩ := row_pt h6 (x := cutP (op + 1) pat) (RpPt.made (hm _ (by show (1 : Nat) ≤ 1000; omega)) (by show inI64 2; unfold inI64; omega) (by show inI64 (op + 1); unfold inI64; omega) ((r1.mono le2).mono le3))
    have le14 := Ce.le_trans le12 (Ce.le_trans le3 le4)
    refine one_x (i := 1) (L.mono le14) rfl (nil_rep X4) r4 (by show (0 : Nat) ≤ 1000000; omega) ck2 (by simp [many]; omega) h7.swap fun X5 fb q2 s8 le5 r5 h8 => ?_
    rw [one_of] at r5
    obtain ⟨ba, bb, bo, bc, rfl, _, bm, bat⟩ := fld_at r5
    obtain ⟨rfl, _, b0, _⟩ := bat 0 (by show 0 < 1; omega)
    replace b0 : X5 bb bo = some (.string (bs (restX back v n2))) := b0
    refine take_res (fn := 1) (w := false) (nd := []) (us := 0) (ms := []) (e := 0) h8.drop fun cb s9 h9 => ?_
    have h10 := h9.swap.drop.drop.drop
    have o1 := h9.obj
    have o2 := h9.obj2
    have f1 := h9.ldx b0
    have f2 := h9.ldx (le5 _ _ _ (le4 _ _ _ a0))
    clear r1 r2 r3 r4 r5 aat bat h8 h7 h6 h5 h4 h3 h2 h1
    (try simp -dsimp (disch := first|exact P5|fail) only [↓P1,P2,↓P4,Q1,Q2,Q3,Q4,Q5,Q6,Q7,Q8,Q9])
    refine join_by fun J3 hJ3 => ?_
    (try simp -dsimp (disch := first|exact P5|fail) only [↓P1,P2,↓P4,Q1,Q2,Q3,Q4,Q5,Q6,Q7,Q8,Q9, o1, o2])
    refine hJ3 _ _ ?_
    clear hJ3
    (try simp -dsimp (disch := first|exact P5|fail) only [↓P1,P2,↓P4,Q1,Q2,Q3,Q4,Q5,Q6,Q7,Q8,Q9, o1, o2, f1, f2])
    have g1 := cf.h1
    have g2 := cf.h2
    have g3 := cf.le
    have e3 : ¬ ((restX back v n1).length : Int) < ((restX back v n2).length : Int) := by omega
    have e4 : ¬ (v.length : Int) < ((restX back v n1).length : Int) := by omega
    refine join_by fun J4 hJ4 => ?_
    (try simp -dsimp (disch := first|exact P5|fail) only [↓P1,P2,↓P4,Q1,Q2,Q3,Q4,Q5,Q6,Q7,Q8,Q9, e3, e4])
    refine hJ4 _ _ ?_
    clear hJ4
    (try simp -dsimp (disch := first|exact P5|fail) only [↓P1,P2,↓P4,Q1,Q2,Q3,Q4,Q5,Q6,Q7,Q8,Q9])
    refine parse_c (nil_rep X5) (s := pat) (by omega) h10 fun X6 lv s10 le6 r6 h11 => ?_
    rw [htk] at r6
    (try simp -dsimp (disch := first|exact P5|fail) only [↓P1,P2,↓P4,Q1,Q2,Q3,Q4,Q5,Q6,Q7,Q8,Q9])
    have le16 : Ce.le X X6 := Ce.le_trans le14 (Ce.le_trans le5 le6)
    refine join_by fun J5 hJ5 => ?_
    have fin : ∀ any s11, Hs s11 X6 [Oth g o] → (any = false → restX back v n1 = v ∧ restX back v n2 = v) → J5 [.bool any] s11 := by
      intro any s11 h12 hany
      refine hJ5 _ _ ?_
      have aw : ∀ K : Value → AS → Prop, (∀ X' σ', Ce.le X6 X' → Hs σ' X' [Oth g o] → K (.bool true) σ') → kCall PG 11 [] s11 K := fun K hK => awake_x (L.mono le16) (i := 0) rfl h12 hK
      cases any with
      | true =>
        (try simp -dsimp (disch := first|exact P5|fail) only [↓P1,P2,↓P4,Q1,Q2,Q3,Q4,Q5,Q6,Q7,Q8,Q9])
        refine aw _ fun X7 s12 le7 h13 => ?_
        (try simp -dsimp (disch := first|exact P5|fail) only [↓P1,P2,↓P4,Q1,Q2,Q3,Q4,Q5,Q6,Q7,Q8,Q9])
        exact hk _ _ (Ce.le_trans le16 le7) h13
      | false =>
        obtain ⟨q1, q2⟩ := hany rfl
        (try simp -dsimp (disch := first|exact P5|fail) only [↓P1,P2,↓P4,Q1,Q2,Q3,Q4,Q5,Q6,Q7,Q8,Q9, q1, q2])
        refine aw _ fun X7 s12 le7 h13 => ?_
        (try simp -dsimp (disch := first|exact P5|fail) only [↓P1,P2,↓P4,Q1,Q2,Q3,Q4,Q5,Q6,Q7,Q8,Q9])
        exact hk _ _ (Ce.le_trans le16 le7) h13
    clear hJ5
    refine loop_inv (fun nn xs s11 => ∃ (n : Nat) (any : Bool), xs = [.bool any, .int .i64 n] ∧ n ≤ v.length + 1 ∧ (any = false → ∀ m, m < n → fitX back tk v m = false) ∧ Hs s11 X6 [Oth g o] ∧ nn = v.length + 1 - n) _ ⟨0, false, rfl, by omega, fun _ m hm => by omega, h11, rfl⟩ ?_
    rintro _ _ s11 again ⟨n, any, rfl, hn, hany, h12, rfl⟩ hag
    by_cases hlt : n ≤ v.length
    · have c1 : (n : Int) ≤ (v.length : Int) := by omega
      (try simp -dsimp (disch := first|exact P5|fail) only [↓P1,P2,↓P4,Q1,Q2,Q3,Q4,Q5,Q6,Q7,Q8,Q9, c1])
      refine join_by fun J7 hJ7 => ?_
      (try simp -dsimp (disch := first|exact P5|fail) only [↓P1,P2,↓P4,Q1,Q2,Q3,Q4,Q5,Q6,Q7,Q8,Q9, c1])
      refine hJ7 _ _ ?_
      clear hJ7
      (try simp -dsimp (disch := first|exact P5|fail) only [↓P1,P2,↓P4,Q1,Q2,Q3,Q4,Q5,Q6,Q7,Q8,Q9])
      refine join_by fun J8 hJ8 => ?_
      have t8 : ∀ b s12, Hs s12 X6 [Oth g o] → (b = false → ∀ m, m < n + 1 → fitX back tk v m = false) → J8 [.bool b] s12 := by
        intro b s12 h13 hb
        refine hJ8 _ _ ?_
        (try simp -dsimp (disch := first|exact P5|fail) only [↓P1,P2,↓P4,Q1,Q2,Q3,Q4,Q5,Q6,Q7,Q8,Q9])
        exact hag _ _ _ ⟨n + 1, b, rfl, by omega, hb, h13, rfl⟩ (by omega)
      clear hJ8 hag
      (try simp -dsimp (disch := first|exact P5|fail) only [↓P1,P2,↓P4,Q1,Q2,Q3,Q4,Q5,Q6,Q7,Q8,Q9])
      refine join_by fun J9 hJ9 => ?_
      have lr : (restX back v n).length = v.length - n := rest_len hlt
      have t9 : J9 [.string (bs (restX back v n)), .string (bs (goneX back v n))] s11 := by
        refine hJ9 _ _ ?_
        clear hJ9
        (try simp -dsimp (disch := first|exact P5|fail) only [↓P1,P2,↓P4,Q1,Q2,Q3,Q4,Q5,Q6,Q7,Q8,Q9])
        refine join_by fun J10 hJ10 => ?_
        have gl := gone_len (back := back) (v := v) (n := n)
        refine match_c r6 (by omega) h12 fun s12 h13 => ?_
        rw [show matchL tk (goneX back v n) = fitX back tk v n from rfl]
        cases hP : fitX back tk v n with
        | true =>
          obtain ⟨y1, y2⟩ := cf.yes n hlt hP
          have e6 : ¬ ((v.length : Int) - ((restX back v n2).length : Int) < (n : Int)) := by omega
          (try simp -dsimp (disch := first|exact P5|fail) only [↓P1,P2,↓P4,Q1,Q2,Q3,Q4,Q5,Q6,Q7,Q8,Q9])
          refine hJ10 _ _ ?_
          clear hJ10
          (try simp -dsimp (disch := first|exact P5|fail) only [↓P1,P2,↓P4,Q1,Q2,Q3,Q4,Q5,Q6,Q7,Q8,Q9])
          refine join_by fun J11 hJ11 => ?_
          have t11 : J11 [] s12 := by
            refine hJ11 _ _ ?_
            (try simp -dsimp (disch := first|exact P5|fail) only [↓P1,P2,↓P4,Q1,Q2,Q3,Q4,Q5,Q6,Q7,Q8,Q9])
            exact t8 true _ h13 (fun h => by cases h)
          clear hJ11
          cases any with
          | true =>
            (try simp -dsimp (disch := first|exact P5|fail) only [↓P1,P2,↓P4,Q1,Q2,Q3,Q4,Q5,Q6,Q7,Q8,Q9, e6])
            exact t11
          | false =>
            obtain rfl := y2 (hany rfl)
            (try simp -dsimp (disch := first|exact P5|fail) only [↓P1,P2,↓P4,Q1,Q2,Q3,Q4,Q5,Q6,Q7,Q8,Q9, e6])
            exact t11
        | false =>
          have hnx : any = false → ∀ m, m < n + 1 → fitX back tk v m = false := fun ha m hm => by
            by_cases hmn : m = n
            · rw [hmn]; exact hP
            · exact hany ha m (by omega)
          by_cases hn0 : n = 0
          · subst hn0
            (try simp -dsimp (disch := first|exact P5|fail) only [↓P1,P2,↓P4,Q1,Q2,Q3,Q4,Q5,Q6,Q7,Q8,Q9])
            exact t8 _ _ h13 hnx
          · obtain ⟨y1, y2⟩ := cf.no n hlt hP (by omega)
            have e5 : (0 : Int) < (n : Int) := by omega
            have e6 : (restX back v n = restX back v n1) = False := by rw [rest_inj hlt g1]; exact eq_false y1
            have e7 : ¬ ((n : Int) = (v.length : Int) - ((restX back v n1).length : Int)) := by omega
            have e8 : ¬ ((n : Int) = (v.length : Int) - ((restX back v n2).length : Int)) := by omega
            (try simp -dsimp (disch := first|exact P5|fail) only [↓P1,P2,↓P4,Q1,Q2,Q3,Q4,Q5,Q6,Q7,Q8,Q9, e5, e6, e7, e8])
            exact t8 _ _ h13 hnx
      clear hJ9
      have eN : ((v.length : Int) - (n : Int)).toNat = v.length - n := by omega
      cases back with
      | false =>
        (try simp -dsimp (disch := first|exact P5|fail) only [↓P1,P2,↓P4,Q1,Q2,Q3,Q4,Q5,Q6,Q7,Q8,Q9])
        rw [List.take_of_length_le (by rw [List.length_drop]; omega)]
        exact t9
      | true =>
        (try simp -dsimp (disch := first|exact P5|fail) only [↓P1,P2,↓P4,Q1,Q2,Q3,Q4,Q5,Q6,Q7,Q8,Q9, eN])
        rw [List.take_of_length_le (l := v.drop (v.length - n)) (by rw [List.length_drop]; omega)]
        exact t9
    · have c1 : ¬ (n : Int) ≤ (v.length : Int) := by omega
      (try simp -dsimp (disch := first|exact P5|fail) only [↓P1,P2,↓P4,Q1,Q2,Q3,Q4,Q5,Q6,Q7,Q8,Q9, c1])
      refine join_by fun J7 hJ7 => ?_
      (try simp -dsimp (disch := first|exact P5|fail) only [↓P1,P2,↓P4,Q1,Q2,Q3,Q4,Q5,Q6,Q7,Q8,Q9, c1])
      refine fin _ _ h12 fun ha => ?_
      obtain ⟨z1, z2⟩ := cf.non fun m hm => hany ha m (by omega)
      rw [z1, z2]
      exact ⟨rest_zero _ _, rest_zero _ _⟩
  cases back with
  | true =>
    (try simp -dsimp (disch := first|exact P5|fail) only [↓P1,P2,↓P4,Q1,Q2,Q3,Q4,Q5,Q6,Q7,Q8,Q9])
    exact (show (op : Int) = 8 from hop) ▸ main
  | false =>
    (try simp -dsimp (disch := first|exact P5|fail) only [↓P1,P2,↓P4,Q1,Q2,Q3,Q4,Q5,Q6,Q7,Q8,Q9])
    exact (show (op : Int) = 6 from hop) ▸ main
theorem cuts_law {W : World} {te te2 : Nat} {pe pe2 v0 v1 v2 : Value} (T : VarAt PG "internal/strconv.uint64pow10" g o powV) (ho : W.heap[g]? = some o) (hE : W.cell? ⟨5, 0, none⟩ = some (.iface te pe)) (hS : W.cell? ⟨4, 0, none⟩ = some (.iface te2 pe2))
    (A0 : OV (E.start W).c (shOf PG 8 9) v0) (A1 : OV (E.start W).c (shOf PG 8 9) v1) (A2 : OV (E.start W).c (shOf PG 8 4) v2) : callP PG 4 [v0, v1, v2] W fun v w' => v = .bool true ∧ KeepP (fun _ => False) W w' := by
  rw [show shOf PG 8 9 = .str from by kernel_rfl] at A0 A1
  rw [show shOf PG 8 4 = .bool from by kernel_rfl] at A2
  obtain ⟨s, rfl, hs⟩ := arg_str A0
  obtain ⟨t, rfl, ht⟩ := arg_str A1
  obtain ⟨b, hb⟩ := A2
  obtain rfl : v2 = .bool b := by simpa using hb
  exact A03.law_st T ho hE hS fun σ L h => cuts_walk L h hs ht fun X' σ' _ h' => ⟨rfl, X', h'⟩
end
end Go.Proofs.YtdlimikcgdgfpaaGreatDoor
