/- Words: a brace. Conditions: as each theorem says. -/
import Derived.Test.YtmgdkoidgoihfaaGreatDoorWdD
import Derived.Test.YtmgdkoidgoihfaaGreatDoorWdA
namespace Go.Proofs.YtmgdkoidgoihfaaGreatDoor
open E Go.Lib
open Go.RowKit
set_option linter.unusedVariables false
set_option linter.unusedSimpArgs false
set_option maxHeartbeats 1000000
set_option maxRecDepth 20000

/-! ### What is wrong is something -/
def RdNe (rd : Str → Nat → WR) (m : Nat) : Prop := ∀ s w e, s.length < m → rd s w = .bad e → ¬ e = 0
theorem brace_ne {rd : Str → Nat → WR} {s : Str} {way : Nat} {out : List Pt} {e : Int} (hr : RdNe rd (s.length + 1)) (h : braceP rd s way out = .bad e) : ¬ e = 0 := by
  unfold braceP at h
  split at h
  · cases h
  split at h
  · cases h; decide
  split at h
  · cases h
  · simp only at h
    split at h
    · cases h; decide
    · rename_i o op ho
      split at h
      · rename_i e' he
        injection h with h
        subst h
        refine hr _ _ _ ?_ he
        rw [List.length_drop]
        split
        · rw [List.length_drop, List.length_drop]; omega
        · rw [List.length_drop]; omega
      · cases h
theorem thing_ne {rd : Str → Nat → WR} {t : Str} {way : Nat} {out : List Pt} {e : Int} (hr : RdNe rd t.length) (h : thingP rd t way out = .bad e) : ¬ e = 0 := by
  unfold thingP at h
  split at h
  · cases h
  rename_i c r
  have hlen : (c :: r).length = r.length + 1 := rfl
  split at h
  · cases h
  split at h
  · split at h
    · cases h
    split at h
    · cases h; decide
    · cases h
  rename_i hr0
  have h1 : 1 ≤ r.length := List.length_pos_iff.2 hr0
  split at h
  · cases h
  split at h
  · split at h
    · rename_i e' he
      injection h with h
      subst h
      refine hr _ _ _ ?_ he
      rw [mid_len]; omega
    · cases h
  split at h
  · refine brace_ne (fun s w e hs => hr s w e ?_) h
    rw [List.length_take, List.length_drop] at hs
    omega
  · cases h
theorem rd_ne : ∀ (f : Nat) (s : Str) (way : Nat) (out : List Pt) (e : Int), s.length < f → rdP f s way out = .bad e → ¬ e = 0
  | 0, s, way, out, e, hs, h => by omega
  | f + 1, s, way, out, e, hs, h => by
    unfold rdP at h
    split at h
    · cases h
    rename_i c t
    have hlen : (c :: t).length = t.length + 1 := rfl
    split at h
    · refine rd_ne f _ _ _ _ ?_ h
      rw [List.length_drop]; omega
    · split at h
      · rename_i n hn
        have h1 := go_ok hn
        split at h
        · refine rd_ne f _ _ _ _ ?_ h
          rw [List.length_drop]; omega
        · rename_i e' he
          injection h with h
          subst h
          refine thing_ne (fun s' w e hs' he => rd_ne f s' w [] e ?_ he) he
          rw [List.length_take] at hs'
          omega
      · rename_i e' j he
        injection h with h
        subst h
        have := (go_bad he).2
        omega
      · rename_i hc
        exact (go_cut (by simp) hc).elim

/-- What is done behind a text that was read; behind a thing that was added. -/
def WK (X : Ce) (R : List Ck) (k : Value → AS → Prop) : WR → Prop
  | .ok w => ∀ X' v σ', Ce.le X X' → RepL X' v w → Hs σ' X' R → k (.tuple #[v, .int .i64 0]) σ'
  | .bad e => ∀ X' σ', Ce.le X X' → Hs σ' X' R → k (.tuple #[.slice none 0 0, .int .i64 e]) σ'
def TK (X : Ce) (R : List Ck) (p : Nat) (k : Value → AS → Prop) : WR → Prop
  | .ok out' => ∀ X' w σ', Ce.le X X' → Hs σ' X' (Rdr p out' 0 :: R) → k w σ'
  | .bad e => ∀ X' w σ' out', Ce.le X X' → Hs σ' X' (Rdr p out' e :: R) → k w σ'
def RdC (f : Nat) : Prop := ∀ {σ : AS} {X : Ce} {R : List Ck} {k : Value → AS → Prop} {s : Str} {way : Nat}, s.length < f → s.length ≤ 100000 → way ≤ 5 → Hs σ X R → WK X R k (rdP f s way []) → kCall Tryz.prog 18 [.string (bs s), .int .i64 way] σ k
section
variable {σ σ' : AS} {X : Ce} {R : List Ck} {k : Value → AS → Prop} {p n i f : Nat} {e : Int} {out : List Pt} {s t : Str} {c : UInt8} {way : Nat} {q : Bool}
theorem rdr_set (h : Hs σ X (Rdr p out e :: R)) : ∃ u, σ.m p = some (.cells [u, .int .i64 e]) ∧ p < σ.n ∧ (∃ a n c, u = .slice a n c) ∧ ∀ e', Hs (σ.put p (.cells [u, .int .i64 e'])) X (Rdr p out e' :: R) := by
  obtain ⟨u, _, h⟩ := h.opened
  have h : Hs σ X (Cel p [u, .int .i64 e] :: E.Own (α := Pt) u out :: R) := h
  obtain ⟨x, c, hu, _⟩ := h.own1
  exact ⟨u, h.obj, h.lt, ⟨x, _, c, hu⟩, fun e' => Hs.closed (f := fun u => [Cel p [u, .int .i64 e'], E.Own (α := Pt) u out]) u trivial h.put⟩
theorem ops_get {j : Nat} (hj : j < ops8.length) : (ops8.map fun o => Value.string (bs o.1))[j]? = some (.string (bs (ops8[j]).1)) ∧ (ops8.map fun o => Value.int .i64 o.2)[j]? = some (.int .i64 (ops8[j]).2) := by
  constructor <;> simp [List.getElem?_map, List.getElem?_eq_getElem hj]
theorem brace_c (ih : RdC f) (hs : s.length ≤ 100000) (hsf : s.length < f) (hw : way ≤ 5) (hf : FitW out n) (hn : n ≤ 800000) (h : Hs σ X (Rdr p out 0 :: R))
    (hk : TK X R p k (braceP (fun s w => rdP f s w []) s way out)) : kCall Tryz.prog 45 [pv p, .string (bs s), .int .i64 way] σ k := by
  refine f45 ?_
  unfold braceP at hk
  have hpl := param_le s
  (try simp (maxSteps := 1000000) (dsimp := false) (disch := (first | omega | (simp only [okR]; done) | (simp only [sizeR] <;> omega) | fail)) only [↓preR, postR, ↓w_stop, Nat.reduceEqDiff, Nat.reduceAdd, Nat.reduceSub, Nat.reduceMul, Int.reduceNeg, Nat.reduceLT, Int.reduceToNat, Nat.reduceLeDiff, Nat.sub_zero, F45])
  refine within_c hw ?_
  generalize hwi : withinB way = wi at *
  have hvar : ∀ s op c w, varP s way op c w = .mk 2 s wi op c w := fun s op c w => by unfold varP; rw [hwi]
  simp only [hvar] at hk
  have h1 := h.new (cs := [.int .i64 0, .string (bs []), .bool false, .int .i64 0, .bool false, .slice none 0 0])
  have h2 := h1.put (cs' := [.int .i64 2, .string (bs []), .bool wi, .int .i64 0, .bool false, .slice none 0 0])
  (try simp (maxSteps := 1000000) (dsimp := false) (disch := (first | omega | (simp only [okR]; done) | (simp only [sizeR] <;> omega) | fail)) only [↓preR, postR, ↓w_stop, Nat.reduceEqDiff, Nat.reduceAdd, Nat.reduceSub, Nat.reduceMul, Int.reduceNeg, Nat.reduceLT, Int.reduceToNat, Nat.reduceLeDiff, Nat.sub_zero, h1.obj])
  generalize hq0 : σ.n = b at h2 ⊢
  generalize AS.put _ _ _ = s1 at h2 ⊢
  clear h1 h hq0
  refine join_by fun J1 hJ1 => ?_
  have tail1 : ¬ (isPre [35] s = true ∧ 1 < s.length ∧ paramN (s.drop 1) = s.length - 1) → J1 [] s1 := by
    intro hc
    rw [if_neg hc] at hk
    refine hJ1 _ _ ?_
    clear hJ1
    (try simp (maxSteps := 1000000) (dsimp := false) (disch := (first | omega | (simp only [okR]; done) | (simp only [sizeR] <;> omega) | fail)) only [↓preR, postR, ↓w_stop, Nat.reduceEqDiff, Nat.reduceAdd, Nat.reduceSub, Nat.reduceMul, Int.reduceNeg, Nat.reduceLT, Int.reduceToNat, Nat.reduceLeDiff, Nat.sub_zero])
    refine param_c (by omega) ?_
    (try simp (maxSteps := 1000000) (dsimp := false) (disch := (first | omega | (simp only [okR]; done) | (simp only [sizeR] <;> omega) | fail)) only [↓preR, postR, ↓w_stop, Nat.reduceEqDiff, Nat.reduceAdd, Nat.reduceSub, Nat.reduceMul, Int.reduceNeg, Nat.reduceLT, Int.reduceToNat, Nat.reduceLeDiff, Nat.sub_zero])
    refine join_now ?_
    by_cases h0 : paramN s = 0
    · rw [if_pos h0] at hk
      obtain ⟨u, ep, hlt, ⟨ua, un, uc, rfl⟩, hset⟩ := rdr_set h2.swap
      (try simp (maxSteps := 1000000) (dsimp := false) (disch := (first | omega | (simp only [okR]; done) | (simp only [sizeR] <;> omega) | fail)) only [↓preR, postR, ↓w_stop, Nat.reduceEqDiff, Nat.reduceAdd, Nat.reduceSub, Nat.reduceMul, Int.reduceNeg, Nat.reduceLT, Int.reduceToNat, Nat.reduceLeDiff, Nat.sub_zero, ep])
      have h3 := hset 10
      exact hk X _ _ out (Ce.le_refl _) ((hset 10).swap.drop)
    rw [if_neg h0] at hk
    have ht0 : (s.drop 0).take (paramN s - 0) = s.take (paramN s) := by simp
    have hd0 : (s.drop (paramN s)).take (s.length - paramN s) = s.drop (paramN s) := List.take_of_length_le (by simp)
    have hdl : (s.drop (paramN s)).length = s.length - paramN s := List.length_drop
    have htl : (s.take (paramN s)).length ≤ s.length := by rw [List.length_take]; omega
    have h3 := h2.put (cs' := [.int .i64 2, .string (bs (s.take (paramN s))), .bool wi, .int .i64 0, .bool false, .slice none 0 0])
    generalize hpn : paramN s = pn at *
    (try simp (maxSteps := 1000000) (dsimp := false) (disch := (first | omega | (simp only [okR]; done) | (simp only [sizeR] <;> omega) | fail)) only [↓preR, postR, ↓w_stop, Nat.reduceEqDiff, Nat.reduceAdd, Nat.reduceSub, Nat.reduceMul, Int.reduceNeg, Nat.reduceLT, Int.reduceToNat, Nat.reduceLeDiff, Nat.sub_zero, h2.obj, ht0, hd0])
    generalize hrest : s.drop pn = rest at *
    generalize htext : s.take pn = text at *
    generalize AS.put _ _ _ = s2 at h3 ⊢
    clear h2
    refine join_now ?_
    by_cases hr0 : rest = []
    · rw [if_pos hr0] at hk
      have hT : (rest = []) = True := eq_true hr0
      (try simp (maxSteps := 1000000) (dsimp := false) (disch := (first | omega | (simp only [okR]; done) | (simp only [sizeR] <;> omega) | fail)) only [↓preR, postR, ↓w_stop, Nat.reduceEqDiff, Nat.reduceAdd, Nat.reduceSub, Nat.reduceMul, Int.reduceNeg, Nat.reduceLT, Int.reduceToNat, Nat.reduceLeDiff, Nat.sub_zero, hT, h3.obj])
      exact add_c (x := .mk 2 text wi 0 false []) (v := .slice none 0 0) (leafOk (by unfold maxLen; omega) (by omega) (by omega)) (by have := hf.1; omega) (by have := hf.2; show txt out + text.length ≤ _; omega) h3.swap fun w s3 h4 => hk X _ _ (Ce.le_refl _) h4.swap.drop
    rw [if_neg hr0] at hk
    have hF : (rest = []) = False := eq_false hr0
    (try simp (maxSteps := 1000000) (dsimp := false) (disch := (first | omega | (simp only [okR]; done) | (simp only [sizeR] <;> omega) | fail)) only [↓preR, postR, ↓w_stop, Nat.reduceEqDiff, Nat.reduceAdd, Nat.reduceSub, Nat.reduceMul, Int.reduceNeg, Nat.reduceLT, Int.reduceToNat, Nat.reduceLeDiff, Nat.sub_zero, hF])
    refine join_by fun J4 hJ4 => ?_
    have hrl : rest.length ≤ s.length := by rw [← hrest, List.length_drop]; omega
    have hrlt : rest.length < s.length := by
      rw [← hrest, List.length_drop]
      omega
    have tail4 : ∀ (cb : Bool) (r1 : Str) (s3 : AS), colonB rest = cb → r1 = (if cb = true then rest.drop 1 else rest) → Hs s3 X (Cel b [.int .i64 2, .string (bs text), .bool wi, .int .i64 0, .bool cb, .slice none 0 0] :: Rdr p out 0 :: R) → J4 [.string (bs r1)] s3 := by
      intro cb r1 s3 hcb hr1 h4
      rw [hcb, ← hr1] at hk
      have hr1l : r1.length ≤ rest.length := by rw [hr1]; split <;> simp
      refine hJ4 _ _ ?_
      clear hJ4
      (try simp (maxSteps := 1000000) (dsimp := false) (disch := (first | omega | (simp only [okR]; done) | (simp only [sizeR] <;> omega) | fail)) only [↓preR, postR, ↓w_stop, Nat.reduceEqDiff, Nat.reduceAdd, Nat.reduceSub, Nat.reduceMul, Int.reduceNeg, Nat.reduceLT, Int.reduceToNat, Nat.reduceLeDiff, Nat.sub_zero])
      refine join_by fun J5 hJ5 => ?_
      have tail5n : ∀ (ob : Nat) s5, opOf r1 = none → Hs s5 X (Cel ob (ops8.map fun o => .string (bs o.1)) :: Cel b [.int .i64 2, .string (bs text), .bool wi, .int .i64 0, .bool cb, .slice none 0 0] :: Rdr p out 0 :: R) → J5 [.string (bs r1)] s5 := by
        intro ob s5 ho h6
        rw [ho] at hk
        refine hJ5 _ _ ?_
        clear hJ5
        (try simp (maxSteps := 1000000) (dsimp := false) (disch := (first | omega | (simp only [okR]; done) | (simp only [sizeR] <;> omega) | fail)) only [↓preR, postR, ↓w_stop, Nat.reduceEqDiff, Nat.reduceAdd, Nat.reduceSub, Nat.reduceMul, Int.reduceNeg, Nat.reduceLT, Int.reduceToNat, Nat.reduceLeDiff, Nat.sub_zero])
        refine join_now ?_
        have h7 := h6.front 2 rfl
        obtain ⟨u, ep, hlt, ⟨ua, un, uc, rfl⟩, hset⟩ := rdr_set h7
        (try simp (maxSteps := 1000000) (dsimp := false) (disch := (first | omega | (simp only [okR]; done) | (simp only [sizeR] <;> omega) | fail)) only [↓preR, postR, ↓w_stop, Nat.reduceEqDiff, Nat.reduceAdd, Nat.reduceSub, Nat.reduceMul, Int.reduceNeg, Nat.reduceLT, Int.reduceToNat, Nat.reduceLeDiff, Nat.sub_zero, h6.obj1, ep])
        exact hk X _ _ out (Ce.le_refl _) (((hset 10).swap.drop).swap.drop)
      have tail5s : ∀ (o : Str) (op : Int) (ob : Nat) s5, opOf r1 = some (o, op) → Hs s5 X (Cel ob (ops8.map fun o => .string (bs o.1)) :: Cel b [.int .i64 2, .string (bs text), .bool wi, .int .i64 op, .bool cb, .slice none 0 0] :: Rdr p out 0 :: R) → J5 [.string (bs (r1.drop o.length))] s5 := by
        intro o op ob s5 ho h6
        rw [ho] at hk
        obtain ⟨o1, o2, o3, o4⟩ := op_rng ho
        simp only at hk
        refine hJ5 _ _ ?_
        clear hJ5 tail5n
        have hdl : (r1.drop o.length).length = r1.length - o.length := List.length_drop
        generalize r1.drop o.length = r2 at *
        (try simp (maxSteps := 1000000) (dsimp := false) (disch := (first | omega | (simp only [okR]; done) | (simp only [sizeR] <;> omega) | fail)) only [↓preR, postR, ↓w_stop, Nat.reduceEqDiff, Nat.reduceAdd, Nat.reduceSub, Nat.reduceMul, Int.reduceNeg, Nat.reduceLT, Int.reduceToNat, Nat.reduceLeDiff, Nat.sub_zero])
        refine join_by fun J6 hJ6 => ?_
        have tail6 : J6 [.int .i64 (nextW way op)] s5 := by
          refine hJ6 _ _ ?_
          clear hJ6
          (try simp (maxSteps := 1000000) (dsimp := false) (disch := (first | omega | (simp only [okR]; done) | (simp only [sizeR] <;> omega) | fail)) only [↓preR, postR, ↓w_stop, Nat.reduceEqDiff, Nat.reduceAdd, Nat.reduceSub, Nat.reduceMul, Int.reduceNeg, Nat.reduceLT, Int.reduceToNat, Nat.reduceLeDiff, Nat.sub_zero])
          refine ih (by omega) (by omega) (by unfold nextW; split <;> (try split) <;> omega) h6 ?_
          cases hrd : rdP f r2 (nextW way op) [] with
          | bad e' =>
            rw [hrd] at hk
            intro X' s6 hX h7
            have hop : ¬ op = 0 := by omega
            have h8 := (h7.front 1 rfl).put (cs' := [.int .i64 2, .string (bs text), .bool wi, .int .i64 op, .bool cb, .slice none 0 0])
            (try simp (maxSteps := 1000000) (dsimp := false) (disch := (first | omega | (simp only [okR]; done) | (simp only [sizeR] <;> omega) | fail)) only [↓preR, postR, ↓w_stop, Nat.reduceEqDiff, Nat.reduceAdd, Nat.reduceSub, Nat.reduceMul, Int.reduceNeg, Nat.reduceLT, Int.reduceToNat, Nat.reduceLeDiff, Nat.sub_zero, h7.obj1])
            have h9 := h8.front 2 rfl
            generalize AS.put s6 _ _ = s7 at h8 h9 ⊢
            obtain ⟨u, ep, hlt, ⟨ua, un, uc, rfl⟩, hset⟩ := rdr_set h9
            have h10 := (hset e').front 1 rfl
            (try simp (maxSteps := 1000000) (dsimp := false) (disch := (first | omega | (simp only [okR]; done) | (simp only [sizeR] <;> omega) | fail)) only [↓preR, postR, ↓w_stop, Nat.reduceEqDiff, Nat.reduceAdd, Nat.reduceSub, Nat.reduceMul, Int.reduceNeg, Nat.reduceLT, Int.reduceToNat, Nat.reduceLeDiff, Nat.sub_zero, ep, h10.obj])
            exact add_c (x := .mk 2 text wi op cb []) (v := .slice none 0 0) (leafOk (by unfold maxLen; omega) (by omega) (by omega)) (by have := hf.1; omega) (by have := hf.2; show txt out + text.length ≤ _; omega) (hset e') fun w s8 h11 => hk X' _ _ _ hX (h11.swap.drop.swap.drop)
          | ok w =>
            rw [hrd] at hk
            intro X' v s6 hX hv h7
            obtain ⟨va, vn, vc, rfl⟩ : ∃ a n c, v = .slice a n c := by
              obtain ⟨a, c, h, _⟩ := hv
              exact ⟨a, _, c, h⟩
            have h8 := (h7.front 1 rfl).put (cs' := [.int .i64 2, .string (bs text), .bool wi, .int .i64 op, .bool cb, .slice va vn vc])
            (try simp (maxSteps := 1000000) (dsimp := false) (disch := (first | omega | (simp only [okR]; done) | (simp only [sizeR] <;> omega) | fail)) only [↓preR, postR, ↓w_stop, Nat.reduceEqDiff, Nat.reduceAdd, Nat.reduceSub, Nat.reduceMul, Int.reduceNeg, Nat.reduceLT, Int.reduceToNat, Nat.reduceLeDiff, Nat.sub_zero, h7.obj1])
            have h9 := h8.front 2 rfl
            generalize AS.put s6 _ _ = s7 at h8 h9 ⊢
            obtain ⟨u, ep, hlt, ⟨ua, un, uc, rfl⟩, hset⟩ := rdr_set h9
            have h10 := (hset 0).front 1 rfl
            (try simp (maxSteps := 1000000) (dsimp := false) (disch := (first | omega | (simp only [okR]; done) | (simp only [sizeR] <;> omega) | fail)) only [↓preR, postR, ↓w_stop, Nat.reduceEqDiff, Nat.reduceAdd, Nat.reduceSub, Nat.reduceMul, Int.reduceNeg, Nat.reduceLT, Int.reduceToNat, Nat.reduceLeDiff, Nat.sub_zero, ep, h10.obj])
            exact add_c (x := .mk 2 text wi op cb w) (v := .slice va vn vc) (RpPt.made (p := .mk 2 text wi op cb w) (by show text.length ≤ _; unfold maxLen; omega) (by show inI64 2; unfold inI64; omega) (by show inI64 op; unfold inI64; omega) hv) (by have := hf.1; omega) (by have := hf.2; show txt out + text.length ≤ _; omega) (hset 0) fun w s8 h11 => hk X' _ _ hX (h11.swap.drop.swap.drop)
        clear hJ6
        unfold nextW at tail6
        have hop : ¬ op = 0 := by omega
        by_cases hw2 : 2 ≤ way
        · rw [if_pos hw2] at tail6
          by_cases h6' : 6 ≤ op
          · rw [if_pos h6'] at tail6
            (try simp (maxSteps := 1000000) (dsimp := false) (disch := (first | omega | (simp only [okR]; done) | (simp only [sizeR] <;> omega) | fail)) only [↓preR, postR, ↓w_stop, Nat.reduceEqDiff, Nat.reduceAdd, Nat.reduceSub, Nat.reduceMul, Int.reduceNeg, Nat.reduceLT, Int.reduceToNat, Nat.reduceLeDiff, Nat.sub_zero, h6.obj1, hop])
            exact tail6
          · rw [if_neg h6'] at tail6
            (try simp (maxSteps := 1000000) (dsimp := false) (disch := (first | omega | (simp only [okR]; done) | (simp only [sizeR] <;> omega) | fail)) only [↓preR, postR, ↓w_stop, Nat.reduceEqDiff, Nat.reduceAdd, Nat.reduceSub, Nat.reduceMul, Int.reduceNeg, Nat.reduceLT, Int.reduceToNat, Nat.reduceLeDiff, Nat.sub_zero, h6.obj1, hop])
            exact tail6
        · rw [if_neg hw2] at tail6
          (try simp (maxSteps := 1000000) (dsimp := false) (disch := (first | omega | (simp only [okR]; done) | (simp only [sizeR] <;> omega) | fail)) only [↓preR, postR, ↓w_stop, Nat.reduceEqDiff, Nat.reduceAdd, Nat.reduceSub, Nat.reduceMul, Int.reduceNeg, Nat.reduceLT, Int.reduceToNat, Nat.reduceLeDiff, Nat.sub_zero, h6.obj1, hop])
          exact tail6
      clear hJ5
      (try simp (maxSteps := 1000000) (dsimp := false) (disch := (first | omega | (simp only [okR]; done) | (simp only [sizeR] <;> omega) | fail)) only [↓preR, postR, ↓w_stop, Nat.reduceEqDiff, Nat.reduceAdd, Nat.reduceSub, Nat.reduceMul, Int.reduceNeg, Nat.reduceLT, Int.reduceToNat, Nat.reduceLeDiff, Nat.sub_zero])
      refine f69 ?_
      have h5 : Hs _ X (Cel s3.n (ops8.map fun o => .string (bs o.1)) :: _) := h4.new
      (try simp (maxSteps := 1000000) (dsimp := false) (disch := (first | omega | (simp only [okR]; done) | (simp only [sizeR] <;> omega) | fail)) only [↓preR, postR, ↓w_stop, Nat.reduceEqDiff, Nat.reduceAdd, Nat.reduceSub, Nat.reduceMul, Int.reduceNeg, Nat.reduceLT, Int.reduceToNat, Nat.reduceLeDiff, Nat.sub_zero, F69])
      generalize hs4 : AS.new s3 _ = s4
      have h5 : Hs s4 X (Cel s3.n (ops8.map fun o => .string (bs o.1)) :: Cel b [.int .i64 2, .string (bs text), .bool wi, .int .i64 0, .bool cb, .slice none 0 0] :: Rdr p out 0 :: R) := by rw [← hs4]; exact h5
      clear hs4 h4
      generalize s3.n = ob at h5 ⊢
      refine loop_inv (fun nn xs s5 => ∃ j : Nat, j ≤ 8 ∧ nn = 8 - j ∧ ((xs = [.string (bs r1), .int .i64 j] ∧ (ops8.drop j).find? (fun o => isPre o.1 r1) = opOf r1 ∧ Hs s5 X (Cel ob (ops8.map fun o => .string (bs o.1)) :: Cel b [.int .i64 2, .string (bs text), .bool wi, .int .i64 0, .bool cb, .slice none 0 0] :: Rdr p out 0 :: R)) ∨
        (∃ o op, xs = [.string (bs (r1.drop o.length)), .int .i64 j] ∧ opOf r1 = some (o, op) ∧ Hs s5 X (Cel ob (ops8.map fun o => .string (bs o.1)) :: Cel b [.int .i64 2, .string (bs text), .bool wi, .int .i64 op, .bool cb, .slice none 0 0] :: Rdr p out 0 :: R)))) _ ⟨0, by omega, rfl, .inl ⟨rfl, rfl, h5⟩⟩ ?_
      rintro _ _ s5 again ⟨j, hj, rfl, hcase⟩ hag
      by_cases hj8 : j < 8
      · obtain ⟨go1, go2⟩ := ops_get (j := j) hj8
        rcases hcase with ⟨rfl, hfi, h6⟩ | ⟨o, op, rfl, hfo, h6⟩
        · rw [List.drop_eq_getElem_cons (show j < ops8.length from hj8), List.find?_cons] at hfi
          have hj8' : j < ops8.length := hj8
          generalize hoj : ops8[j] = oj at hfi go1 go2
          (try simp (maxSteps := 1000000) (dsimp := false) (disch := (first | omega | (simp only [okR]; done) | (simp only [sizeR] <;> omega) | fail)) only [↓preR, postR, ↓w_stop, Nat.reduceEqDiff, Nat.reduceAdd, Nat.reduceSub, Nat.reduceMul, Int.reduceNeg, Nat.reduceLT, Int.reduceToNat, Nat.reduceLeDiff, Nat.sub_zero])
          refine join_now ?_
          (try simp (maxSteps := 1000000) (dsimp := false) (disch := (first | omega | (simp only [okR]; done) | (simp only [sizeR] <;> omega) | fail)) only [↓preR, postR, ↓w_stop, Nat.reduceEqDiff, Nat.reduceAdd, Nat.reduceSub, Nat.reduceMul, Int.reduceNeg, Nat.reduceLT, Int.reduceToNat, Nat.reduceLeDiff, Nat.sub_zero, h6.obj, go1, h6.obj1])
          refine join_by fun J9 hJ9 => ?_
          have tail9 : ∀ (r : Str) s6, again [.string (bs r), .int .i64 ((j : Int) + 1)] s6 → J9 [.string (bs r)] s6 := by
            intro r s6 ha
            refine hJ9 _ _ ?_
            (try simp (maxSteps := 1000000) (dsimp := false) (disch := (first | omega | (simp only [okR]; done) | (simp only [sizeR] <;> omega) | fail)) only [↓preR, postR, ↓w_stop, Nat.reduceEqDiff, Nat.reduceAdd, Nat.reduceSub, Nat.reduceMul, Int.reduceNeg, Nat.reduceLT, Int.reduceToNat, Nat.reduceLeDiff, Nat.sub_zero])
            exact ha
          clear hJ9
          (try simp (maxSteps := 1000000) (dsimp := false) (disch := (first | omega | (simp only [okR]; done) | (simp only [sizeR] <;> omega) | fail)) only [↓preR, postR, ↓w_stop, Nat.reduceEqDiff, Nat.reduceAdd, Nat.reduceSub, Nat.reduceMul, Int.reduceNeg, Nat.reduceLT, Int.reduceToNat, Nat.reduceLeDiff, Nat.sub_zero, h6.obj, go1, h6.obj1])
          refine pref_c (by unfold maxLen; omega) ?_
          have hpre : isPre oj.1 r1 = decide (r1.take oj.1.length = oj.1) := rfl
          rw [hpre] at hfi
          by_cases hp : r1.take oj.1.length = oj.1
          · have hT : (r1.take oj.1.length = oj.1) = True := eq_true hp
            simp only [hT, decide_true] at hfi
            have hol : oj.1.length ≤ r1.length := by
              have := congrArg List.length hp
              rw [List.length_take] at this
              omega
            have hdr : (r1.drop oj.1.length).take (r1.length - oj.1.length) = r1.drop oj.1.length := List.take_of_length_le (by simp)
            (try simp (maxSteps := 1000000) (dsimp := false) (disch := (first | omega | (simp only [okR]; done) | (simp only [sizeR] <;> omega) | fail)) only [↓preR, postR, ↓w_stop, Nat.reduceEqDiff, Nat.reduceAdd, Nat.reduceSub, Nat.reduceMul, Int.reduceNeg, Nat.reduceLT, Int.reduceToNat, Nat.reduceLeDiff, Nat.sub_zero, hT, hdr])
            refine f71 ?_
            have h7 : Hs _ X (Cel s5.n (ops8.map fun o => .int .i64 o.2) :: _) := h6.new
            (try simp (maxSteps := 1000000) (dsimp := false) (disch := (first | omega | (simp only [okR]; done) | (simp only [sizeR] <;> omega) | fail)) only [↓preR, postR, ↓w_stop, Nat.reduceEqDiff, Nat.reduceAdd, Nat.reduceSub, Nat.reduceMul, Int.reduceNeg, Nat.reduceLT, Int.reduceToNat, Nat.reduceLeDiff, Nat.sub_zero, F71])
            generalize hs6 : AS.new s5 _ = s6
            have h7 : Hs s6 X (Cel s5.n (ops8.map fun o => .int .i64 o.2) :: Cel ob (ops8.map fun o => .string (bs o.1)) :: Cel b [.int .i64 2, .string (bs text), .bool wi, .int .i64 0, .bool cb, .slice none 0 0] :: Rdr p out 0 :: R) := by rw [← hs6]; exact h7
            clear hs6
            have h8 := h7.put2 (cs' := [.int .i64 2, .string (bs text), .bool wi, .int .i64 oj.2, .bool cb, .slice none 0 0])
            have go2' : ([.int .i64 7, .int .i64 9, .int .i64 6, .int .i64 8, .int .i64 2, .int .i64 3, .int .i64 4, .int .i64 5] : List Value)[j]? = some (.int .i64 oj.2) := go2
            (try simp (maxSteps := 1000000) (dsimp := false) (disch := (first | omega | (simp only [okR]; done) | (simp only [sizeR] <;> omega) | fail)) only [↓preR, postR, ↓w_stop, Nat.reduceEqDiff, Nat.reduceAdd, Nat.reduceSub, Nat.reduceMul, Int.reduceNeg, Nat.reduceLT, Int.reduceToNat, Nat.reduceLeDiff, Nat.sub_zero, go2', h7.obj, h7.obj2, go2])
            refine tail9 _ _ (hag _ _ _ ⟨j + 1, by omega, rfl, .inr ⟨oj.1, oj.2, rfl, hfi.symm, h8.drop⟩⟩ (by omega))
          · have hF : (r1.take oj.1.length = oj.1) = False := eq_false hp
            simp only [hF, decide_false] at hfi
            (try simp (maxSteps := 1000000) (dsimp := false) (disch := (first | omega | (simp only [okR]; done) | (simp only [sizeR] <;> omega) | fail)) only [↓preR, postR, ↓w_stop, Nat.reduceEqDiff, Nat.reduceAdd, Nat.reduceSub, Nat.reduceMul, Int.reduceNeg, Nat.reduceLT, Int.reduceToNat, Nat.reduceLeDiff, Nat.sub_zero, hF])
            exact tail9 _ _ (hag _ _ _ ⟨j + 1, by omega, rfl, .inl ⟨rfl, hfi, h6⟩⟩ (by omega))
        · have hop := (op_rng hfo).1
          have hop0 : ¬ op = 0 := by omega
          (try simp (maxSteps := 1000000) (dsimp := false) (disch := (first | omega | (simp only [okR]; done) | (simp only [sizeR] <;> omega) | fail)) only [↓preR, postR, ↓w_stop, Nat.reduceEqDiff, Nat.reduceAdd, Nat.reduceSub, Nat.reduceMul, Int.reduceNeg, Nat.reduceLT, Int.reduceToNat, Nat.reduceLeDiff, Nat.sub_zero])
          refine join_now ?_
          (try simp (maxSteps := 1000000) (dsimp := false) (disch := (first | omega | (simp only [okR]; done) | (simp only [sizeR] <;> omega) | fail)) only [↓preR, postR, ↓w_stop, Nat.reduceEqDiff, Nat.reduceAdd, Nat.reduceSub, Nat.reduceMul, Int.reduceNeg, Nat.reduceLT, Int.reduceToNat, Nat.reduceLeDiff, Nat.sub_zero, h6.obj, go1, h6.obj1])
          refine join_now ?_
          (try simp (maxSteps := 1000000) (dsimp := false) (disch := (first | omega | (simp only [okR]; done) | (simp only [sizeR] <;> omega) | fail)) only [↓preR, postR, ↓w_stop, Nat.reduceEqDiff, Nat.reduceAdd, Nat.reduceSub, Nat.reduceMul, Int.reduceNeg, Nat.reduceLT, Int.reduceToNat, Nat.reduceLeDiff, Nat.sub_zero, h6.obj, go1, h6.obj1, hop0])
          exact hag _ _ _ ⟨j + 1, by omega, rfl, .inr ⟨o, op, rfl, hfo, h6⟩⟩ (by omega)
      · obtain rfl : j = 8 := by omega
        rcases hcase with ⟨rfl, hfi, h6⟩ | ⟨o, op, rfl, hfo, h6⟩
        · (try simp (maxSteps := 1000000) (dsimp := false) (disch := (first | omega | (simp only [okR]; done) | (simp only [sizeR] <;> omega) | fail)) only [↓preR, postR, ↓w_stop, Nat.reduceEqDiff, Nat.reduceAdd, Nat.reduceSub, Nat.reduceMul, Int.reduceNeg, Nat.reduceLT, Int.reduceToNat, Nat.reduceLeDiff, Nat.sub_zero])
          refine join_now ?_
          (try simp (maxSteps := 1000000) (dsimp := false) (disch := (first | omega | (simp only [okR]; done) | (simp only [sizeR] <;> omega) | fail)) only [↓preR, postR, ↓w_stop, Nat.reduceEqDiff, Nat.reduceAdd, Nat.reduceSub, Nat.reduceMul, Int.reduceNeg, Nat.reduceLT, Int.reduceToNat, Nat.reduceLeDiff, Nat.sub_zero])
          exact tail5n _ _ hfi.symm h6
        · (try simp (maxSteps := 1000000) (dsimp := false) (disch := (first | omega | (simp only [okR]; done) | (simp only [sizeR] <;> omega) | fail)) only [↓preR, postR, ↓w_stop, Nat.reduceEqDiff, Nat.reduceAdd, Nat.reduceSub, Nat.reduceMul, Int.reduceNeg, Nat.reduceLT, Int.reduceToNat, Nat.reduceLeDiff, Nat.sub_zero])
          refine join_now ?_
          (try simp (maxSteps := 1000000) (dsimp := false) (disch := (first | omega | (simp only [okR]; done) | (simp only [sizeR] <;> omega) | fail)) only [↓preR, postR, ↓w_stop, Nat.reduceEqDiff, Nat.reduceAdd, Nat.reduceSub, Nat.reduceMul, Int.reduceNeg, Nat.reduceLT, Int.reduceToNat, Nat.reduceLeDiff, Nat.sub_zero])
          exact tail5s _ _ _ _ hfo h6
    clear hJ4
    have i58 : ∀ c : UInt8, c = 58 ↔ c.toNat = 58 := fun c => u8_eq rfl
    cases rest with
    | nil => exact (hr0 rfl).elim
    | cons c r =>
      have hlen : (c :: r).length = r.length + 1 := rfl
      cases r with
      | nil =>
        have hcB : colonB [c] = false := rfl
        (try simp (maxSteps := 1000000) (dsimp := false) (disch := (first | omega | (simp only [okR]; done) | (simp only [sizeR] <;> omega) | fail)) only [↓preR, postR, ↓w_stop, Nat.reduceEqDiff, Nat.reduceAdd, Nat.reduceSub, Nat.reduceMul, Int.reduceNeg, Nat.reduceLT, Int.reduceToNat, Nat.reduceLeDiff, Nat.sub_zero, hlen])
        exact tail4 false _ _ hcB (by simp) h3
      | cons x r =>
        have hcB : colonB (c :: x :: r) = (decide (c = 58) && ([45, 61, 63, 43] : Str).contains x) := rfl
        by_cases h58 : c.toNat = 58
        · have hc58 := (i58 c).2 h58
          rw [decide_eq_true hc58, Bool.true_and] at hcB
          (try simp (maxSteps := 1000000) (dsimp := false) (disch := (first | omega | (simp only [okR]; done) | (simp only [sizeR] <;> omega) | fail)) only [↓preR, postR, ↓w_stop, Nat.reduceEqDiff, Nat.reduceAdd, Nat.reduceSub, Nat.reduceMul, Int.reduceNeg, Nat.reduceLT, Int.reduceToNat, Nat.reduceLeDiff, Nat.sub_zero, hlen, Option.getD_some])
          refine idx_c (s := [45, 61, 63, 43]) (c := x) rfl ?_
          have hps := posB_has x [45, 61, 63, 43]
          rw [← hps] at hcB
          cases hpo : posB x [45, 61, 63, 43] with
          | none =>
            rw [hpo] at hcB
            (try simp (maxSteps := 1000000) (dsimp := false) (disch := (first | omega | (simp only [okR]; done) | (simp only [sizeR] <;> omega) | fail)) only [↓preR, postR, ↓w_stop, Nat.reduceEqDiff, Nat.reduceAdd, Nat.reduceSub, Nat.reduceMul, Int.reduceNeg, Nat.reduceLT, Int.reduceToNat, Nat.reduceLeDiff, Nat.sub_zero])
            exact tail4 false _ _ hcB (by simp) h3
          | some m =>
            rw [hpo] at hcB
            have hdr : (x :: r).take ((c :: x :: r).length - 1) = x :: r := List.take_of_length_le (by simp)
            have h4 := h3.put (cs' := [.int .i64 2, .string (bs text), .bool wi, .int .i64 0, .bool true, .slice none 0 0])
            (try simp (maxSteps := 1000000) (dsimp := false) (disch := (first | omega | (simp only [okR]; done) | (simp only [sizeR] <;> omega) | fail)) only [↓preR, postR, ↓w_stop, Nat.reduceEqDiff, Nat.reduceAdd, Nat.reduceSub, Nat.reduceMul, Int.reduceNeg, Nat.reduceLT, Int.reduceToNat, Nat.reduceLeDiff, Nat.sub_zero, h3.obj, hdr])
            exact tail4 true _ _ hcB (by simp) h4
        · have hc58 : ¬ c = 58 := fun h => h58 ((i58 c).1 h)
          rw [decide_eq_false hc58, Bool.false_and] at hcB
          (try simp (maxSteps := 1000000) (dsimp := false) (disch := (first | omega | (simp only [okR]; done) | (simp only [sizeR] <;> omega) | fail)) only [↓preR, postR, ↓w_stop, Nat.reduceEqDiff, Nat.reduceAdd, Nat.reduceSub, Nat.reduceMul, Int.reduceNeg, Nat.reduceLT, Int.reduceToNat, Nat.reduceLeDiff, Nat.sub_zero, hlen, Option.getD_some])
          exact tail4 false _ _ hcB (by simp) h3
  clear hJ1
  (try simp (maxSteps := 1000000) (dsimp := false) (disch := (first | omega | (simp only [okR]; done) | (simp only [sizeR] <;> omega) | fail)) only [↓preR, postR, ↓w_stop, Nat.reduceEqDiff, Nat.reduceAdd, Nat.reduceSub, Nat.reduceMul, Int.reduceNeg, Nat.reduceLT, Int.reduceToNat, Nat.reduceLeDiff, Nat.sub_zero])
  refine cutp_c (c := 35) (by unfold maxLen; omega) ?_
  have hd1 : (s.drop 1).length = s.length - 1 := List.length_drop
  cases hp : isPre [35] s with
  | false =>
    (try simp (maxSteps := 1000000) (dsimp := false) (disch := (first | omega | (simp only [okR]; done) | (simp only [sizeR] <;> omega) | fail)) only [↓preR, postR, ↓w_stop, Nat.reduceEqDiff, Nat.reduceAdd, Nat.reduceSub, Nat.reduceMul, Int.reduceNeg, Nat.reduceLT, Int.reduceToNat, Nat.reduceLeDiff, Nat.sub_zero])
    exact tail1 (by rw [hp]; simp)
  | true =>
    simp only [if_true]
    by_cases h0 : s.drop 1 = []
    · have hT : (s.drop 1 = []) = True := eq_true h0
      (try simp (maxSteps := 1000000) (dsimp := false) (disch := (first | omega | (simp only [okR]; done) | (simp only [sizeR] <;> omega) | fail)) only [↓preR, postR, ↓w_stop, Nat.reduceEqDiff, Nat.reduceAdd, Nat.reduceSub, Nat.reduceMul, Int.reduceNeg, Nat.reduceLT, Int.reduceToNat, Nat.reduceLeDiff, Nat.sub_zero, hT])
      exact tail1 (by
        rintro ⟨_, h, _⟩
        rw [h0] at hd1
        simp at hd1
        omega)
    · have hF : (s.drop 1 = []) = False := eq_false h0
      have hlt : 1 < s.length := by
        have := List.length_pos_iff.2 h0
        omega
      (try simp (maxSteps := 1000000) (dsimp := false) (disch := (first | omega | (simp only [okR]; done) | (simp only [sizeR] <;> omega) | fail)) only [↓preR, postR, ↓w_stop, Nat.reduceEqDiff, Nat.reduceAdd, Nat.reduceSub, Nat.reduceMul, Int.reduceNeg, Nat.reduceLT, Int.reduceToNat, Nat.reduceLeDiff, Nat.sub_zero, hF])
      refine param_c (by omega) ?_
      by_cases hpp : paramN (s.drop 1) = s.length - 1
      · rw [if_pos ⟨hp, hlt, hpp⟩] at hk
        have h3 := h2.put (cs' := [.int .i64 2, .string (bs (s.drop 1)), .bool wi, .int .i64 0, .bool false, .slice none 0 0])
        have h4 := h2.put (cs' := [.int .i64 2, .string (bs (s.drop 1)), .bool wi, .int .i64 1, .bool false, .slice none 0 0])
        (try simp (maxSteps := 1000000) (dsimp := false) (disch := (first | omega | (simp only [okR]; done) | (simp only [sizeR] <;> omega) | fail)) only [↓preR, postR, ↓w_stop, Nat.reduceEqDiff, Nat.reduceAdd, Nat.reduceSub, Nat.reduceMul, Int.reduceNeg, Nat.reduceLT, Int.reduceToNat, Nat.reduceLeDiff, Nat.sub_zero, h2.obj, h3.obj, h4.obj])
        refine add_c (x := .mk 2 (s.drop 1) wi 1 false []) (v := .slice none 0 0) (leafOk (by unfold maxLen; omega) (by omega) (by omega)) (by have := hf.1; omega) (by have := hf.2; show txt out + (s.drop 1).length ≤ _; omega) h4.swap fun w s3 h5 => hk X _ _ (Ce.le_refl _) h5.swap.drop
      · have hpp' : ¬ ((paramN (s.drop 1) : Int) = ((s.drop 1).length : Int)) := by omega
        (try simp (maxSteps := 1000000) (dsimp := false) (disch := (first | omega | (simp only [okR]; done) | (simp only [sizeR] <;> omega) | fail)) only [↓preR, postR, ↓w_stop, Nat.reduceEqDiff, Nat.reduceAdd, Nat.reduceSub, Nat.reduceMul, Int.reduceNeg, Nat.reduceLT, Int.reduceToNat, Nat.reduceLeDiff, Nat.sub_zero, hpp'])
        exact tail1 (fun h => hpp h.2.2)
end
end Go.Proofs.YtmgdkoidgoihfaaGreatDoor

/- Words: a text is read. Conditions: as each theorem says. -/
namespace Go.Proofs.YtmgdkoidgoihfaaGreatDoor
open E Go.Lib
open Go.RowKit
set_option linter.unusedVariables false
set_option linter.unusedSimpArgs false
set_option maxHeartbeats 1000000
set_option maxRecDepth 20000

/-- What a thing of a text looks like. -/
def Shape : Str → Prop
  | [] => False
  | [_] => True
  | c :: x :: r => (c = 92 ∧ r = []) ∨ c = 39 ∨ c = 34 ∨ (c = 36 ∧ (x = 123 ∨ x = 40) ∧ r ≠ [])
theorem thing_eq (rd : Str → Nat → WR) (c : UInt8) (r : Str) (way : Nat) (out : List Pt) : thingP rd (c :: r) way out =
    if c = 92 then .ok (pairP (c :: r) way out)
    else if r = [] then
      (if c = 36 then .ok (addP out (litP [c] true))
      else if way = 0 ∧ metaB c = true then .bad 10
      else .ok (addP out (litP [c] (withinB way))))
    else if c = 39 then .ok (addP out (litP (mid (c :: r)) true))
    else if c = 34 then
      (match rd (mid (c :: r)) 2 with
      | .bad e => .bad e
      | .ok w => .ok (w.foldl addP (if w = [] then addP out (litP [] true) else out)))
    else if r.head? = some 123 then braceP rd ((r.drop 1).take (r.length - 2)) way out
    else .ok (runP r (withinB way) out) := rfl
theorem shape_two {c : UInt8} {l : Str} {n : Nat} (h2 : 2 ≤ n) (hn : n ≤ (c :: l).length) (hc : c = 39 ∨ c = 34) : Shape ((c :: l).take n) := by
  obtain ⟨m, rfl⟩ : ∃ m, n = m + 2 := ⟨n - 2, by omega⟩
  cases l with
  | nil => simp at hn
  | cons x r =>
    rw [List.take_succ_cons, List.take_succ_cons]
    rcases hc with h | h
    · exact .inr (.inl h)
    · exact .inr (.inr (.inl h))
theorem shape_three {x : UInt8} {r : Str} {n : Nat} (h3 : 3 ≤ n) (hn : n ≤ (36 :: x :: r).length) (hx : x = 123 ∨ x = 40) : Shape ((36 :: x :: r).take n) := by
  obtain ⟨m, rfl⟩ : ∃ m, n = m + 3 := ⟨n - 3, by omega⟩
  rw [List.take_succ_cons, List.take_succ_cons]
  refine .inr (.inr (.inr ⟨rfl, hx, ?_⟩))
  cases r with
  | nil => simp at hn
  | cons y r => simp
theorem go_shape {c : UInt8} {l : Str} {q d : Bool} {deep n f : Nat} (h : go (f + 1) none (c :: l) q d false deep = .ok n) : Shape ((c :: l).take n) := by
  have hlen := go_ok h
  rw [go_n] at h
  have one : Shape ((c :: l).take 1) := by rw [List.take_succ_cons, List.take_zero]; trivial
  split at h
  · rename_i h92
    cases l with
    | nil => simp at h; subst h; exact one
    | cons x r => simp at h; subst h; subst h92; exact .inl ⟨rfl, by simp⟩
  split at h
  · rename_i h39
    split at h
    · injection h with h; subst h; exact shape_two (by omega) hlen.2 (.inl h39.1)
    · cases h
  split at h
  · rename_i h34
    obtain ⟨i, hi, rfl⟩ := shut_ok h
    have := go_ok hi
    exact shape_two (by omega) hlen.2 (.inr h34.1)
  split at h
  · rename_i h40; cases h40.2
  split at h
  · rename_i h36
    subst h36
    split at h
    · injection h with h; subst h; exact one
    · rename_i x r
      split at h
      · rename_i hx
        obtain ⟨i, hi, rfl⟩ := shut_ok h
        have := go_ok hi
        exact shape_three (by omega) hlen.2 (.inl hx)
      split at h
      · rename_i hx
        obtain ⟨i, hi, rfl⟩ := shut_ok h
        have := go_ok hi
        exact shape_three (by omega) hlen.2 (.inr hx)
      · injection h with h; subst h; exact one
  split at h
  · cases h
  · injection h with h; subst h; exact one
section
variable {σ σ' : AS} {X : Ce} {R : List Ck} {k : Value → AS → Prop} {p n i f : Nat} {e : Int} {out : List Pt} {s t : Str} {c : UInt8} {way : Nat} {q : Bool}
theorem TK.any {r : WR} (h : TK X R p k r) : TK X R p (fun _ s => k undef s) r := by
  cases r with
  | ok w => exact fun X' w σ' hX h1 => h X' undef σ' hX h1
  | bad e => exact fun X' w σ' o hX h1 => h X' undef σ' o hX h1
theorem inner_c (ih : RdC f) (hs : s.length ≤ 100000) (hsf : s.length < f) (hf : FitW out n) (hn : n ≤ 700000) (h : Hs σ X (Rdr p out 0 :: R))
    (hk : TK X R p k (match rdP f s 2 [] with
      | .bad e => .bad e
      | .ok w => .ok (w.foldl addP (if w = [] then addP out (litP [] true) else out)))) : kCall Tryz.prog 44 [pv p, .string (bs s)] σ k := by
  refine f44 ?_
  (try simp (maxSteps := 1000000) (dsimp := false) (disch := (first | omega | (simp only [okR]; done) | (simp only [sizeR] <;> omega) | fail)) only [↓preR, postR, ↓w_stop, Nat.reduceEqDiff, Nat.reduceAdd, Nat.reduceSub, Nat.reduceMul, Int.reduceNeg, Nat.reduceLT, Int.reduceToNat, Nat.reduceLeDiff, Nat.sub_zero, F44])
  refine ih (way := 2) hsf hs (by omega) h ?_
  cases hrd : rdP f s 2 [] with
  | bad e' =>
    rw [hrd] at hk
    have he := rd_ne f s 2 [] e' hsf hrd
    intro X' s1 hX h1
    (try simp (maxSteps := 1000000) (dsimp := false) (disch := (first | omega | (simp only [okR]; done) | (simp only [sizeR] <;> omega) | fail)) only [↓preR, postR, ↓w_stop, Nat.reduceEqDiff, Nat.reduceAdd, Nat.reduceSub, Nat.reduceMul, Int.reduceNeg, Nat.reduceLT, Int.reduceToNat, Nat.reduceLeDiff, Nat.sub_zero])
    refine join_now ?_
    obtain ⟨u, ep, hlt, ⟨ua, un, uc, rfl⟩, hset⟩ := rdr_set h1
    (try simp (maxSteps := 1000000) (dsimp := false) (disch := (first | omega | (simp only [okR]; done) | (simp only [sizeR] <;> omega) | fail)) only [↓preR, postR, ↓w_stop, Nat.reduceEqDiff, Nat.reduceAdd, Nat.reduceSub, Nat.reduceMul, Int.reduceNeg, Nat.reduceLT, Int.reduceToNat, Nat.reduceLeDiff, Nat.sub_zero, he, ep])
    exact hk X' _ _ out hX (hset e')
  | ok w =>
    rw [hrd] at hk
    have hfw := rd_fit f s 2 0 [] w ⟨by simp, by simp [txt]⟩ hrd
    rw [Nat.zero_add] at hfw
    intro X' v s1 hX hv h1
    have hv' := hv
    obtain ⟨va, vcp, rfl, _⟩ := hv'
    (try simp (maxSteps := 1000000) (dsimp := false) (disch := (first | omega | (simp only [okR]; done) | (simp only [sizeR] <;> omega) | fail)) only [↓preR, postR, ↓w_stop, Nat.reduceEqDiff, Nat.reduceAdd, Nat.reduceSub, Nat.reduceMul, Int.reduceNeg, Nat.reduceLT, Int.reduceToNat, Nat.reduceLeDiff, Nat.sub_zero])
    refine join_now ?_
    (try simp (maxSteps := 1000000) (dsimp := false) (disch := (first | omega | (simp only [okR]; done) | (simp only [sizeR] <;> omega) | fail)) only [↓preR, postR, ↓w_stop, Nat.reduceEqDiff, Nat.reduceAdd, Nat.reduceSub, Nat.reduceMul, Int.reduceNeg, Nat.reduceLT, Int.reduceToNat, Nat.reduceLeDiff, Nat.sub_zero])
    refine join_by fun J2 hJ2 => ?_
    have tail : ∀ o1 s2, Hs s2 X' (Rdr p o1 0 :: R) → FitW o1 (n + 1) → w.foldl addP o1 = w.foldl addP (if w = [] then addP out (litP [] true) else out) → J2 [] s2 := by
      intro o1 s2 h2 hf2 he
      refine hJ2 _ _ ?_
      (try simp (maxSteps := 1000000) (dsimp := false) (disch := (first | omega | (simp only [okR]; done) | (simp only [sizeR] <;> omega) | fail)) only [↓preR, postR, ↓w_stop, Nat.reduceEqDiff, Nat.reduceAdd, Nat.reduceSub, Nat.reduceMul, Int.reduceNeg, Nat.reduceLT, Int.reduceToNat, Nat.reduceLeDiff, Nat.sub_zero])
      refine each_c hv hf2 (by have := hfw.1; omega) (by have := hfw.2; omega) h2 fun u s3 h3 => ?_
      (try simp (maxSteps := 1000000) (dsimp := false) (disch := (first | omega | (simp only [okR]; done) | (simp only [sizeR] <;> omega) | fail)) only [↓preR, postR, ↓w_stop, Nat.reduceEqDiff, Nat.reduceAdd, Nat.reduceSub, Nat.reduceMul, Int.reduceNeg, Nat.reduceLT, Int.reduceToNat, Nat.reduceLeDiff, Nat.sub_zero])
      rw [he] at h3
      exact hk X' _ _ hX h3
    clear hJ2
    by_cases hw : w = []
    · subst hw
      (try simp (maxSteps := 1000000) (dsimp := false) (disch := (first | omega | (simp only [okR]; done) | (simp only [sizeR] <;> omega) | fail)) only [↓preR, postR, ↓w_stop, Nat.reduceEqDiff, Nat.reduceAdd, Nat.reduceSub, Nat.reduceMul, Int.reduceNeg, Nat.reduceLT, Int.reduceToNat, Nat.reduceLeDiff, Nat.sub_zero])
      refine lit_c hf (by simp; omega) h1 fun u s2 h2 => ?_
      (try simp (maxSteps := 1000000) (dsimp := false) (disch := (first | omega | (simp only [okR]; done) | (simp only [sizeR] <;> omega) | fail)) only [↓preR, postR, ↓w_stop, Nat.reduceEqDiff, Nat.reduceAdd, Nat.reduceSub, Nat.reduceMul, Int.reduceNeg, Nat.reduceLT, Int.reduceToNat, Nat.reduceLeDiff, Nat.sub_zero])
      exact tail _ _ h2 (hf.add (by simp [Pt.text]) (by omega)) (by simp)
    · have : ¬ w.length = 0 := fun h => hw (List.eq_nil_of_length_eq_zero h)
      (try simp (maxSteps := 1000000) (dsimp := false) (disch := (first | omega | (simp only [okR]; done) | (simp only [sizeR] <;> omega) | fail)) only [↓preR, postR, ↓w_stop, Nat.reduceEqDiff, Nat.reduceAdd, Nat.reduceSub, Nat.reduceMul, Int.reduceNeg, Nat.reduceLT, Int.reduceToNat, Nat.reduceLeDiff, Nat.sub_zero])
      exact tail _ _ h1 (hf.le (by omega)) (by rw [if_neg hw])
theorem wthing_c (ih : RdC f) (hsh : Shape t) (hs : t.length ≤ 100000) (hsf : t.length ≤ f) (hw : way ≤ 5) (hf : FitW out n) (hn : n ≤ 700000) (h : Hs σ X (Rdr p out 0 :: R))
    (hk : TK X R p k (thingP (fun s w => rdP f s w []) t way out)) : kCall Tryz.prog 27 [pv p, .string (bs t), .int .i64 way] σ k := by
  refine f27 ?_
  have ok : ∀ {o1 : List Pt}, TK X R p k (.ok o1) → ∀ (w : Value) (σ' : AS), Hs σ' X (Rdr p o1 0 :: R) → k undef σ' := fun h1 w σ' h2 => h1 X undef σ' (Ce.le_refl _) h2
  have i92 : ∀ c : UInt8, c = 92 ↔ c.toNat = 92 := fun c => u8_eq rfl
  have i36 : ∀ c : UInt8, c = 36 ↔ c.toNat = 36 := fun c => u8_eq rfl
  cases t with
  | nil => exact hsh.elim
  | cons c l =>
  cases l with
  | nil =>
    have hne : ([c] : Str).length = 1 := rfl
    rw [thing_eq] at hk
    by_cases h92 : c = 92
    · rw [if_pos h92] at hk
      subst h92
      (simp (maxSteps := 1000000) (dsimp := false) (disch := (first | omega | (simp only [okR]; done) | (simp only [sizeR] <;> omega) | fail)) only [↓preR, postR, ↓w_join, Nat.reduceEqDiff, Nat.reduceAdd, Nat.reduceSub, Nat.reduceMul, Int.reduceNeg, Nat.reduceLT, Int.reduceToNat, Nat.reduceLeDiff, Nat.sub_zero, F27])
      exact pair_c hf (by omega) hw (.inl rfl) h (ok hk)
    have n92 : ¬ c.toNat = 92 := fun h => h92 ((i92 c).2 h)
    rw [if_neg h92, if_pos rfl] at hk
    by_cases h36 : c = 36
    · rw [if_pos h36] at hk
      subst h36
      (simp (maxSteps := 1000000) (dsimp := false) (disch := (first | omega | (simp only [okR]; done) | (simp only [sizeR] <;> omega) | fail)) only [↓preR, postR, ↓w_join, Nat.reduceEqDiff, Nat.reduceAdd, Nat.reduceSub, Nat.reduceMul, Int.reduceNeg, Nat.reduceLT, Int.reduceToNat, Nat.reduceLeDiff, Nat.sub_zero, F27])
      exact lit_c hf (by simp; omega) h (ok hk)
    have n36 : ¬ c.toNat = 36 := fun h => h36 ((i36 c).2 h)
    rw [if_neg h36] at hk
    have fin : ¬ (way = 0 ∧ metaB c = true) → ∀ s1, Hs s1 X (Rdr p out 0 :: R) → kCall Tryz.prog 25 [.int .i64 way] s1 fun v9 s => kCall Tryz.prog 43 [pv p, .string (bs [c]), v9] s fun v10 s => k undef s := by
      intro hc s1 h1
      rw [if_neg hc] at hk
      refine within_c hw ?_
      exact lit_c hf (by simp; omega) h1 (ok hk)
    have byte : ∀ m : Nat, (c.toNat = m) → True := fun _ _ => trivial
    by_cases n39 : c.toNat = 39
    · by_cases h0 : way = 0
      · (simp (maxSteps := 1000000) (dsimp := false) (disch := (first | omega | (simp only [okR]; done) | (simp only [sizeR] <;> omega) | fail)) only [↓preR, postR, ↓w_join, Nat.reduceEqDiff, Nat.reduceAdd, Nat.reduceSub, Nat.reduceMul, Int.reduceNeg, Nat.reduceLT, Int.reduceToNat, Nat.reduceLeDiff, Nat.sub_zero, F27, Option.getD_some])
        refine meta_c (c := c) rfl h fun s1 h1 => ?_
        cases hm : metaB c with
        | true =>
          rw [if_pos ⟨h0, hm⟩] at hk
          obtain ⟨u, ep, hlt, ⟨ua, un, uc, rfl⟩, hset⟩ := rdr_set h1
          (try simp (maxSteps := 1000000) (dsimp := false) (disch := (first | omega | (simp only [okR]; done) | (simp only [sizeR] <;> omega) | fail)) only [↓preR, postR, ↓w_join, Nat.reduceEqDiff, Nat.reduceAdd, Nat.reduceSub, Nat.reduceMul, Int.reduceNeg, Nat.reduceLT, Int.reduceToNat, Nat.reduceLeDiff, Nat.sub_zero, ep])
          exact hk X _ _ out (Ce.le_refl _) (hset 10)
        | false =>
          (try simp (maxSteps := 1000000) (dsimp := false) (disch := (first | omega | (simp only [okR]; done) | (simp only [sizeR] <;> omega) | fail)) only [↓preR, postR, ↓w_join, Nat.reduceEqDiff, Nat.reduceAdd, Nat.reduceSub, Nat.reduceMul, Int.reduceNeg, Nat.reduceLT, Int.reduceToNat, Nat.reduceLeDiff, Nat.sub_zero])
          exact fin (by rw [hm]; simp) _ h1
      · (simp (maxSteps := 1000000) (dsimp := false) (disch := (first | omega | (simp only [okR]; done) | (simp only [sizeR] <;> omega) | fail)) only [↓preR, postR, ↓w_join, Nat.reduceEqDiff, Nat.reduceAdd, Nat.reduceSub, Nat.reduceMul, Int.reduceNeg, Nat.reduceLT, Int.reduceToNat, Nat.reduceLeDiff, Nat.sub_zero, F27, Option.getD_some])
        exact fin (fun h => h0 h.1) _ h
    by_cases n34 : c.toNat = 34
    · by_cases h0 : way = 0
      · (simp (maxSteps := 1000000) (dsimp := false) (disch := (first | omega | (simp only [okR]; done) | (simp only [sizeR] <;> omega) | fail)) only [↓preR, postR, ↓w_join, Nat.reduceEqDiff, Nat.reduceAdd, Nat.reduceSub, Nat.reduceMul, Int.reduceNeg, Nat.reduceLT, Int.reduceToNat, Nat.reduceLeDiff, Nat.sub_zero, F27, Option.getD_some])
        refine meta_c (c := c) rfl h fun s1 h1 => ?_
        cases hm : metaB c with
        | true =>
          rw [if_pos ⟨h0, hm⟩] at hk
          obtain ⟨u, ep, hlt, ⟨ua, un, uc, rfl⟩, hset⟩ := rdr_set h1
          (try simp (maxSteps := 1000000) (dsimp := false) (disch := (first | omega | (simp only [okR]; done) | (simp only [sizeR] <;> omega) | fail)) only [↓preR, postR, ↓w_join, Nat.reduceEqDiff, Nat.reduceAdd, Nat.reduceSub, Nat.reduceMul, Int.reduceNeg, Nat.reduceLT, Int.reduceToNat, Nat.reduceLeDiff, Nat.sub_zero, ep])
          exact hk X _ _ out (Ce.le_refl _) (hset 10)
        | false =>
          (try simp (maxSteps := 1000000) (dsimp := false) (disch := (first | omega | (simp only [okR]; done) | (simp only [sizeR] <;> omega) | fail)) only [↓preR, postR, ↓w_join, Nat.reduceEqDiff, Nat.reduceAdd, Nat.reduceSub, Nat.reduceMul, Int.reduceNeg, Nat.reduceLT, Int.reduceToNat, Nat.reduceLeDiff, Nat.sub_zero])
          exact fin (by rw [hm]; simp) _ h1
      · (simp (maxSteps := 1000000) (dsimp := false) (disch := (first | omega | (simp only [okR]; done) | (simp only [sizeR] <;> omega) | fail)) only [↓preR, postR, ↓w_join, Nat.reduceEqDiff, Nat.reduceAdd, Nat.reduceSub, Nat.reduceMul, Int.reduceNeg, Nat.reduceLT, Int.reduceToNat, Nat.reduceLeDiff, Nat.sub_zero, F27, Option.getD_some])
        exact fin (fun h => h0 h.1) _ h
    by_cases h0 : way = 0
    · (simp (maxSteps := 1000000) (dsimp := false) (disch := (first | omega | (simp only [okR]; done) | (simp only [sizeR] <;> omega) | fail)) only [↓preR, postR, ↓w_join, Nat.reduceEqDiff, Nat.reduceAdd, Nat.reduceSub, Nat.reduceMul, Int.reduceNeg, Nat.reduceLT, Int.reduceToNat, Nat.reduceLeDiff, Nat.sub_zero, F27, Option.getD_some])
      refine meta_c (c := c) rfl h fun s1 h1 => ?_
      cases hm : metaB c with
      | true =>
        rw [if_pos ⟨h0, hm⟩] at hk
        obtain ⟨u, ep, hlt, ⟨ua, un, uc, rfl⟩, hset⟩ := rdr_set h1
        (try simp (maxSteps := 1000000) (dsimp := false) (disch := (first | omega | (simp only [okR]; done) | (simp only [sizeR] <;> omega) | fail)) only [↓preR, postR, ↓w_join, Nat.reduceEqDiff, Nat.reduceAdd, Nat.reduceSub, Nat.reduceMul, Int.reduceNeg, Nat.reduceLT, Int.reduceToNat, Nat.reduceLeDiff, Nat.sub_zero, ep])
        exact hk X _ _ out (Ce.le_refl _) (hset 10)
      | false =>
        (try simp (maxSteps := 1000000) (dsimp := false) (disch := (first | omega | (simp only [okR]; done) | (simp only [sizeR] <;> omega) | fail)) only [↓preR, postR, ↓w_join, Nat.reduceEqDiff, Nat.reduceAdd, Nat.reduceSub, Nat.reduceMul, Int.reduceNeg, Nat.reduceLT, Int.reduceToNat, Nat.reduceLeDiff, Nat.sub_zero])
        exact fin (by rw [hm]; simp) _ h1
    · (simp (maxSteps := 1000000) (dsimp := false) (disch := (first | omega | (simp only [okR]; done) | (simp only [sizeR] <;> omega) | fail)) only [↓preR, postR, ↓w_join, Nat.reduceEqDiff, Nat.reduceAdd, Nat.reduceSub, Nat.reduceMul, Int.reduceNeg, Nat.reduceLT, Int.reduceToNat, Nat.reduceLeDiff, Nat.sub_zero, F27, Option.getD_some])
      exact fin (fun h => h0 h.1) _ h
  | cons x r =>
    have hlen : (c :: x :: r).length = r.length + 2 := rfl
    have hmid : ((c :: x :: r).drop 1).take (r.length + 2 - 1 - 1) = mid (c :: x :: r) := by unfold mid; rw [hlen]; rfl
    have hmid2 : (x :: r).take (r.length + 2 - 1 - 1) = mid (c :: x :: r) := hmid
    have hml : (mid (c :: x :: r)).length = r.length := by rw [mid_len, hlen]; omega
    have hr0 : ¬ (x :: r = []) := by simp
    have u39 : (39 : UInt8).toNat = 39 := rfl
    have u34 : (34 : UInt8).toNat = 34 := rfl
    have u36 : (36 : UInt8).toNat = 36 := rfl
    have u123 : (123 : UInt8).toNat = 123 := rfl
    have u40 : (40 : UInt8).toNat = 40 := rfl
    rw [thing_eq] at hk
    rw [hlen] at hs hsf
    rcases hsh with ⟨rfl, rfl⟩ | rfl | rfl | ⟨rfl, hx, hr⟩
    · rw [if_pos rfl] at hk
      (simp (maxSteps := 1000000) (dsimp := false) (disch := (first | omega | (simp only [okR]; done) | (simp only [sizeR] <;> omega) | fail)) only [↓preR, postR, ↓w_join, Nat.reduceEqDiff, Nat.reduceAdd, Nat.reduceSub, Nat.reduceMul, Int.reduceNeg, Nat.reduceLT, Int.reduceToNat, Nat.reduceLeDiff, Nat.sub_zero, F27])
      exact pair_c hf (by omega) hw (.inr ⟨x, rfl⟩) h (ok hk)
    · rw [if_neg (by decide), if_neg hr0, if_pos rfl] at hk
      (simp (maxSteps := 1000000) (dsimp := false) (disch := (first | omega | (simp only [okR]; done) | (simp only [sizeR] <;> omega) | fail)) only [↓preR, postR, ↓w_join, Nat.reduceEqDiff, Nat.reduceAdd, Nat.reduceSub, Nat.reduceMul, Int.reduceNeg, Nat.reduceLT, Int.reduceToNat, Nat.reduceLeDiff, Nat.sub_zero, F27, Option.getD_some, hlen, hmid2])
      exact lit_c hf (by omega) h (ok hk)
    · rw [if_neg (by decide), if_neg hr0, if_neg (by decide), if_pos rfl] at hk
      (simp (maxSteps := 1000000) (dsimp := false) (disch := (first | omega | (simp only [okR]; done) | (simp only [sizeR] <;> omega) | fail)) only [↓preR, postR, ↓w_join, Nat.reduceEqDiff, Nat.reduceAdd, Nat.reduceSub, Nat.reduceMul, Int.reduceNeg, Nat.reduceLT, Int.reduceToNat, Nat.reduceLeDiff, Nat.sub_zero, F27, Option.getD_some, hlen, hmid2])
      exact inner_c ih (by omega) (by omega) hf hn h hk.any
    · rw [if_neg (by decide), if_neg hr0, if_neg (by decide), if_neg (by decide)] at hk
      have hrl : 1 ≤ r.length := List.length_pos_iff.2 hr
      rcases hx with rfl | rfl
      · rw [if_pos (show (((123 : UInt8) :: r).head? = some 123) from rfl)] at hk
        have hbt : r.take (r.length + 2 - 1 - 2) = (((123 : UInt8) :: r).drop 1).take (((123 : UInt8) :: r).length - 2) := by
          show r.take _ = r.take _
          congr 1
        have hbl : (r.take (r.length + 2 - 1 - 2)).length ≤ r.length := by rw [List.length_take]; omega
        rw [← hbt] at hk
        (simp (maxSteps := 1000000) (dsimp := false) (disch := (first | omega | (simp only [okR]; done) | (simp only [sizeR] <;> omega) | fail)) only [↓preR, postR, ↓w_join, Nat.reduceEqDiff, Nat.reduceAdd, Nat.reduceSub, Nat.reduceMul, Int.reduceNeg, Nat.reduceLT, Int.reduceToNat, Nat.reduceLeDiff, Nat.sub_zero, F27, Option.getD_some, hlen])
        exact brace_c ih (by omega) (by omega) hw hf (by omega) h hk.any
      · rw [if_neg (by simp)] at hk
        have hbt : ((40 : UInt8) :: r).take (r.length + 2 - 1) = 40 :: r := List.take_of_length_le (by simp)
        (simp (maxSteps := 1000000) (dsimp := false) (disch := (first | omega | (simp only [okR]; done) | (simp only [sizeR] <;> omega) | fail)) only [↓preR, postR, ↓w_join, Nat.reduceEqDiff, Nat.reduceAdd, Nat.reduceSub, Nat.reduceMul, Int.reduceNeg, Nat.reduceLT, Int.reduceToNat, Nat.reduceLeDiff, Nat.sub_zero, F27, Option.getD_some, hlen, hbt])
        refine within_c hw ?_
        (try simp (maxSteps := 1000000) (dsimp := false) (disch := (first | omega | (simp only [okR]; done) | (simp only [sizeR] <;> omega) | fail)) only [↓preR, postR, ↓w_join, Nat.reduceEqDiff, Nat.reduceAdd, Nat.reduceSub, Nat.reduceMul, Int.reduceNeg, Nat.reduceLT, Int.reduceToNat, Nat.reduceLeDiff, Nat.sub_zero])
        exact run_c hf (by simp only [List.length_cons]; omega) (by simp only [List.length_cons]; omega) h (ok hk)
theorem Rdr.new (h : Hs σ X R) : Hs (σ.new (.cells [.slice none 0 0, .int .i64 0])) X (Rdr σ.n [] 0 :: R) :=
  Hs.closed (f := fun u => [Cel σ.n [u, .int .i64 0], E.Own (α := Pt) u []]) (.slice none 0 0) trivial (Hs.own0 (α := Pt) h.new).swap
end
end Go.Proofs.YtmgdkoidgoihfaaGreatDoor

/- Words: a text is read; a word; a text in place. Conditions: as each theorem says. -/
namespace Go.Proofs.YtmgdkoidgoihfaaGreatDoor
open E Go.Lib
open Go.RowKit
set_option linter.unusedVariables false
set_option linter.unusedSimpArgs false
set_option maxHeartbeats 1000000
set_option maxRecDepth 20000

section
variable {σ σ' : AS} {X : Ce} {R : List Ck} {k : Value → AS → Prop} {p n i f : Nat} {e : Int} {out : List Pt} {s t : Str} {c : UInt8} {way : Nat} {q : Bool}
theorem rd_nil (g : Nat) (way : Nat) (out : List Pt) : rdP (g + 1) [] way out = .ok out := rfl
theorem rd_cons (g : Nat) (c : UInt8) (t : Str) (way : Nat) (out : List Pt) : rdP (g + 1) (c :: t) way out =
      if c = 36 ∧ 0 < namedN t then rdP g (t.drop (namedN t)) way (addP out (varP (t.take (namedN t)) way 0 false []))
      else match go FU none (c :: t) (qOf c way) (!qOf c way) false 0 with
        | .ok n =>
          match thingP (fun s w => rdP g s w []) ((c :: t).take n) way out with
          | .ok out' => rdP g ((c :: t).drop n) way out'
          | .bad e => .bad e
        | .bad e _ => .bad e
        | .cut => .bad 0 := rfl
theorem read_c : ∀ f, RdC f := by
  intro f
  induction f using Nat.strongRecOn with
  | ind f ih =>
    intro σ X R k s way hsf hs hw h hk
    refine f18 ?_
    have h1 := Rdr.new h
    (try simp (maxSteps := 1000000) (dsimp := false) (disch := (first | omega | (simp only [okR]; done) | (simp only [sizeR] <;> omega) | fail)) only [↓preR, postR, ↓w_stop, Nat.reduceEqDiff, Nat.reduceAdd, Nat.reduceSub, Nat.reduceMul, Int.reduceNeg, Nat.reduceLT, Int.reduceToNat, Nat.reduceLeDiff, Nat.sub_zero, F18])
    generalize AS.new σ _ = s1 at h1 ⊢
    generalize σ.n = p at h1 ⊢
    refine join_by fun J1 hJ1 => ?_
    have tail1 : ∀ X' s2 out, Ce.le X X' → rdP f s way [] = .ok out → Hs s2 X' (Rdr p out 0 :: R) → J1 [] s2 := by
      intro X' s2 out hX hr h2
      rw [hr] at hk
      refine hJ1 _ _ ?_
      clear hJ1
      obtain ⟨u, _, h2⟩ := h2.opened
      have h2 : Hs s2 X' (Cel p [u, .int .i64 0] :: E.Own (α := Pt) u out :: R) := h2
      (try simp (maxSteps := 1000000) (dsimp := false) (disch := (first | omega | (simp only [okR]; done) | (simp only [sizeR] <;> omega) | fail)) only [↓preR, postR, ↓w_stop, Nat.reduceEqDiff, Nat.reduceAdd, Nat.reduceSub, Nat.reduceMul, Int.reduceNeg, Nat.reduceLT, Int.reduceToNat, Nat.reduceLeDiff, Nat.sub_zero, h2.obj])
      obtain ⟨X2, hX2, hr2, h3⟩ := h2.drop.keep
      exact hk X2 _ _ (Ce.le_trans hX hX2) hr2 h3
    clear hJ1
    (try simp (maxSteps := 1000000) (dsimp := false) (disch := (first | omega | (simp only [okR]; done) | (simp only [sizeR] <;> omega) | fail)) only [↓preR, postR, ↓w_stop, Nat.reduceEqDiff, Nat.reduceAdd, Nat.reduceSub, Nat.reduceMul, Int.reduceNeg, Nat.reduceLT, Int.reduceToNat, Nat.reduceLeDiff, Nat.sub_zero])
    refine loop_inv (fun nn xs s2 => ∃ (X1 : Ce) (j g : Nat) (o1 : List Pt), xs = [.int .i64 j] ∧ Ce.le X X1 ∧ j ≤ s.length ∧ s.length - j < g ∧ g ≤ f ∧ FitW o1 j ∧ Hs s2 X1 (Rdr p o1 0 :: R) ∧ rdP g (s.drop j) way o1 = rdP f s way [] ∧ nn = s.length - j) _
      ⟨X, 0, f, [], rfl, Ce.le_refl _, Nat.zero_le _, by omega, Nat.le_refl _, ⟨Nat.zero_le _, Nat.zero_le _⟩, h1, rfl, rfl⟩ ?_
    rintro _ _ s2 again ⟨X1, j, g, o1, rfl, hX1, hj, hg, hgf, hf, h2, hr, rfl⟩ hag
    obtain ⟨g, rfl⟩ : ∃ g', g = g' + 1 := ⟨g - 1, by omega⟩
    (try simp (maxSteps := 1000000) (dsimp := false) (disch := (first | omega | (simp only [okR]; done) | (simp only [sizeR] <;> omega) | fail)) only [↓preR, postR, ↓w_stop, Nat.reduceEqDiff, Nat.reduceAdd, Nat.reduceSub, Nat.reduceMul, Int.reduceNeg, Nat.reduceLT, Int.reduceToNat, Nat.reduceLeDiff, Nat.sub_zero])
    refine join_now ?_
    by_cases hlt : j < s.length
    rotate_left
    · rw [List.drop_of_length_le (by omega), rd_nil] at hr
      (try simp (maxSteps := 1000000) (dsimp := false) (disch := (first | omega | (simp only [okR]; done) | (simp only [sizeR] <;> omega) | fail)) only [↓preR, postR, ↓w_stop, Nat.reduceEqDiff, Nat.reduceAdd, Nat.reduceSub, Nat.reduceMul, Int.reduceNeg, Nat.reduceLT, Int.reduceToNat, Nat.reduceLeDiff, Nat.sub_zero])
      exact tail1 X1 s2 o1 hX1 hr.symm h2
    rw [drop_c hlt, rd_cons] at hr
    have hgd : (s[j]?.getD 0) = s[j] := by simp [hlt]
    (try simp (maxSteps := 1000000) (dsimp := false) (disch := (first | omega | (simp only [okR]; done) | (simp only [sizeR] <;> omega) | fail)) only [↓preR, postR, ↓w_stop, Nat.reduceEqDiff, Nat.reduceAdd, Nat.reduceSub, Nat.reduceMul, Int.reduceNeg, Nat.reduceLT, Int.reduceToNat, Nat.reduceLeDiff, Nat.sub_zero, hgd])
    refine join_by fun J4 hJ4 => ?_
    have tail4 : ∀ s3, ¬ (s[j] = 36 ∧ 0 < namedN (s.drop (j + 1))) → Hs s3 X1 (Rdr p o1 0 :: R) → J4 [.int .i64 j] s3 := by
      intro s3 hc h3
      rw [if_neg hc] at hr
      refine hJ4 _ _ ?_
      clear hJ4
      (try simp (maxSteps := 1000000) (dsimp := false) (disch := (first | omega | (simp only [okR]; done) | (simp only [sizeR] <;> omega) | fail)) only [↓preR, postR, ↓w_stop, Nat.reduceEqDiff, Nat.reduceAdd, Nat.reduceSub, Nat.reduceMul, Int.reduceNeg, Nat.reduceLT, Int.reduceToNat, Nat.reduceLeDiff, Nat.sub_zero])
      refine wend_c (by omega) hlt hw h3 ?_
      rw [drop_c hlt]
      cases hgo : go FU none (s[j] :: s.drop (j + 1)) (qOf s[j] way) (!qOf s[j] way) false 0 with
      | cut => trivial
      | bad e' b =>
        rw [hgo] at hr
        simp only at hr
        rw [← hr] at hk
        intro he s4 h4
        (try simp (maxSteps := 1000000) (dsimp := false) (disch := (first | omega | (simp only [okR]; done) | (simp only [sizeR] <;> omega) | fail)) only [↓preR, postR, ↓w_stop, Nat.reduceEqDiff, Nat.reduceAdd, Nat.reduceSub, Nat.reduceMul, Int.reduceNeg, Nat.reduceLT, Int.reduceToNat, Nat.reduceLeDiff, Nat.sub_zero])
        refine join_now ?_
        (try simp (maxSteps := 1000000) (dsimp := false) (disch := (first | omega | (simp only [okR]; done) | (simp only [sizeR] <;> omega) | fail)) only [↓preR, postR, ↓w_stop, Nat.reduceEqDiff, Nat.reduceAdd, Nat.reduceSub, Nat.reduceMul, Int.reduceNeg, Nat.reduceLT, Int.reduceToNat, Nat.reduceLeDiff, Nat.sub_zero, he])
        exact hk X1 _ hX1 h4.drop
      | ok m =>
        rw [hgo] at hr
        simp only at hr
        have hsh : Shape ((s[j] :: s.drop (j + 1)).take m) := go_shape (f := 2099999) hgo
        have hm := go_ok hgo
        rw [← drop_c hlt] at hm hsh hr
        rw [List.length_drop] at hm
        have htl : ((s.drop j).take m).length = m := by rw [List.length_take, List.length_drop]; omega
        intro s4 h4
        have hsub : (s.drop j).take (j + m - j) = (s.drop j).take m := by rw [show j + m - j = m from by omega]
        (try simp (maxSteps := 1000000) (dsimp := false) (disch := (first | omega | (simp only [okR]; done) | (simp only [sizeR] <;> omega) | fail)) only [↓preR, postR, ↓w_stop, Nat.reduceEqDiff, Nat.reduceAdd, Nat.reduceSub, Nat.reduceMul, Int.reduceNeg, Nat.reduceLT, Int.reduceToNat, Nat.reduceLeDiff, Nat.sub_zero])
        refine join_now ?_
        (try simp (maxSteps := 1000000) (dsimp := false) (disch := (first | omega | (simp only [okR]; done) | (simp only [sizeR] <;> omega) | fail)) only [↓preR, postR, ↓w_stop, Nat.reduceEqDiff, Nat.reduceAdd, Nat.reduceSub, Nat.reduceMul, Int.reduceNeg, Nat.reduceLT, Int.reduceToNat, Nat.reduceLeDiff, Nat.sub_zero, hsub, Nat.add_sub_cancel_left])
        have hne : ∀ e', thingP (fun s w => rdP g s w []) ((s.drop j).take m) way o1 = .bad e' → ¬ e' = 0 := fun e' he => thing_ne (fun s' w e hs' he => rd_ne g s' w [] e (by omega) he) he
        refine wthing_c (f := g) (n := j) (ih g (by omega)) hsh (by omega) (by omega) hw hf (by omega) h4 ?_
        cases hth : thingP (fun s w => rdP g s w []) ((s.drop j).take m) way o1 with
        | bad e' =>
          rw [hth] at hr
          simp only at hr
          rw [← hr] at hk
          intro X2 w s5 o2 hX2 h5
          have he := hne e' hth
          obtain ⟨u, ep, hlt', ⟨ua, un, uc, rfl⟩, hset⟩ := rdr_set h5
          (try simp (maxSteps := 1000000) (dsimp := false) (disch := (first | omega | (simp only [okR]; done) | (simp only [sizeR] <;> omega) | fail)) only [↓preR, postR, ↓w_stop, Nat.reduceEqDiff, Nat.reduceAdd, Nat.reduceSub, Nat.reduceMul, Int.reduceNeg, Nat.reduceLT, Int.reduceToNat, Nat.reduceLeDiff, Nat.sub_zero])
          refine join_now ?_
          (try simp (maxSteps := 1000000) (dsimp := false) (disch := (first | omega | (simp only [okR]; done) | (simp only [sizeR] <;> omega) | fail)) only [↓preR, postR, ↓w_stop, Nat.reduceEqDiff, Nat.reduceAdd, Nat.reduceSub, Nat.reduceMul, Int.reduceNeg, Nat.reduceLT, Int.reduceToNat, Nat.reduceLeDiff, Nat.sub_zero, ep, he])
          exact hk X2 _ (Ce.le_trans hX1 hX2) h5.drop
        | ok o2 =>
          rw [hth] at hr
          simp only [List.drop_drop] at hr
          have hf2 := thing_fit (n := j) (fun s' w l hs' hl => by
            have := rd_fit g s' w 0 [] l ⟨by simp, by simp [txt]⟩ hl
            rwa [Nat.zero_add] at this) hf hth (fun _ => by rw [htl]; omega)
          rw [htl] at hf2
          intro X2 w s5 hX2 h5
          obtain ⟨u, ep, hlt', ⟨ua, un, uc, rfl⟩, hset⟩ := rdr_set h5
          (try simp (maxSteps := 1000000) (dsimp := false) (disch := (first | omega | (simp only [okR]; done) | (simp only [sizeR] <;> omega) | fail)) only [↓preR, postR, ↓w_stop, Nat.reduceEqDiff, Nat.reduceAdd, Nat.reduceSub, Nat.reduceMul, Int.reduceNeg, Nat.reduceLT, Int.reduceToNat, Nat.reduceLeDiff, Nat.sub_zero])
          refine join_now ?_
          (try simp (maxSteps := 1000000) (dsimp := false) (disch := (first | omega | (simp only [okR]; done) | (simp only [sizeR] <;> omega) | fail)) only [↓preR, postR, ↓w_stop, Nat.reduceEqDiff, Nat.reduceAdd, Nat.reduceSub, Nat.reduceMul, Int.reduceNeg, Nat.reduceLT, Int.reduceToNat, Nat.reduceLeDiff, Nat.sub_zero, ep])
          exact hag _ _ _ ⟨X2, j + m, g, o2, rfl, Ce.le_trans hX1 hX2, by omega, by omega, by omega, hf2, h5, hr, rfl⟩ (by omega)
    clear hJ4
    have i36 := u8_eq (c := s[j]) (x := 36) (n := 36) rfl
    by_cases h36 : s[j].toNat = 36
    · have hsd : (s.drop j).take (s.length - j) = 36 :: s.drop (j + 1) := by
        rw [List.take_of_length_le (by simp), drop_c hlt, i36.2 h36]
      (try simp (maxSteps := 1000000) (dsimp := false) (disch := (first | omega | (simp only [okR]; done) | (simp only [sizeR] <;> omega) | fail)) only [↓preR, postR, ↓w_stop, Nat.reduceEqDiff, Nat.reduceAdd, Nat.reduceSub, Nat.reduceMul, Int.reduceNeg, Nat.reduceLT, Int.reduceToNat, Nat.reduceLeDiff, Nat.sub_zero, hgd, hsd])
      refine within_c hw ?_
      (try simp (maxSteps := 1000000) (dsimp := false) (disch := (first | omega | (simp only [okR]; done) | (simp only [sizeR] <;> omega) | fail)) only [↓preR, postR, ↓w_stop, Nat.reduceEqDiff, Nat.reduceAdd, Nat.reduceSub, Nat.reduceMul, Int.reduceNeg, Nat.reduceLT, Int.reduceToNat, Nat.reduceLeDiff, Nat.sub_zero, hsd])
      have hdl : (s.drop (j + 1)).length = s.length - (j + 1) := List.length_drop
      have hnl := named_le (s.drop (j + 1))
      refine wdollar_c hf (by omega) h2 (fun hz => ?_) (fun hz s3 h3 => ?_)
      · (try simp (maxSteps := 1000000) (dsimp := false) (disch := (first | omega | (simp only [okR]; done) | (simp only [sizeR] <;> omega) | fail)) only [↓preR, postR, ↓w_stop, Nat.reduceEqDiff, Nat.reduceAdd, Nat.reduceSub, Nat.reduceMul, Int.reduceNeg, Nat.reduceLT, Int.reduceToNat, Nat.reduceLeDiff, Nat.sub_zero])
        exact tail4 s2 (fun h => by omega) h2
      · rw [if_pos ⟨i36.2 h36, hz⟩, List.drop_drop] at hr
        generalize hnn : namedN (s.drop (j + 1)) = m at *
        have hf2 := hf.add (p := varP ((s.drop (j + 1)).take m) way 0 false []) (m := 1 + m) (by simp only [varP, Pt.text, List.length_take]; omega) (by omega)
        (try simp (maxSteps := 1000000) (dsimp := false) (disch := (first | omega | (simp only [okR]; done) | (simp only [sizeR] <;> omega) | fail)) only [↓preR, postR, ↓w_stop, Nat.reduceEqDiff, Nat.reduceAdd, Nat.reduceSub, Nat.reduceMul, Int.reduceNeg, Nat.reduceLT, Int.reduceToNat, Nat.reduceLeDiff, Nat.sub_zero])
        refine hag _ _ _ ⟨X1, j + (1 + m), g, _, rfl, hX1, by omega, by omega, by omega, hf2, h3, ?_, rfl⟩ (by omega)
        rw [← hr, show j + 1 + m = j + (1 + m) from by omega]
    · (try simp (maxSteps := 1000000) (dsimp := false) (disch := (first | omega | (simp only [okR]; done) | (simp only [sizeR] <;> omega) | fail)) only [↓preR, postR, ↓w_stop, Nat.reduceEqDiff, Nat.reduceAdd, Nat.reduceSub, Nat.reduceMul, Int.reduceNeg, Nat.reduceLT, Int.reduceToNat, Nat.reduceLeDiff, Nat.sub_zero, hgd])
      exact tail4 s2 (fun h => h36 (i36.1 h.1)) h2
/-- A word's parts. -/
theorem parse_c (h : Hs σ X R) (hk : WK X R k (wordW s 0)) (hs : s.length ≤ maxLen) : kCall Tryz.prog 6 [.string (bs s)] σ k := by
  unfold wordW at hk
  unfold maxLen at hs
  refine f6 ?_
  (try simp (maxSteps := 1000000) (dsimp := false) (disch := (first | omega | (simp only [okR]; done) | (simp only [sizeR] <;> omega) | fail)) only [↓preR, postR, ↓w_stop, Nat.reduceEqDiff, Nat.reduceAdd, Nat.reduceSub, Nat.reduceMul, Int.reduceNeg, Nat.reduceLT, Int.reduceToNat, Nat.reduceLeDiff, Nat.sub_zero, F6])
  refine join_now ?_
  by_cases hl : 4096 < s.length
  · rw [if_pos hl] at hk
    (try simp (maxSteps := 1000000) (dsimp := false) (disch := (first | omega | (simp only [okR]; done) | (simp only [sizeR] <;> omega) | fail)) only [↓preR, postR, ↓w_stop, Nat.reduceEqDiff, Nat.reduceAdd, Nat.reduceSub, Nat.reduceMul, Int.reduceNeg, Nat.reduceLT, Int.reduceToNat, Nat.reduceLeDiff, Nat.sub_zero])
    exact hk X _ (Ce.le_refl _) h
  · rw [if_neg hl] at hk
    (try simp (maxSteps := 1000000) (dsimp := false) (disch := (first | omega | (simp only [okR]; done) | (simp only [sizeR] <;> omega) | fail)) only [↓preR, postR, ↓w_stop, Nat.reduceEqDiff, Nat.reduceAdd, Nat.reduceSub, Nat.reduceMul, Int.reduceNeg, Nat.reduceLT, Int.reduceToNat, Nat.reduceLeDiff, Nat.sub_zero])
    refine read_c (s.length + 1) (way := 0) (by omega) (by omega) (by omega) h ?_
    cases hr : rdP (s.length + 1) s 0 [] with
    | ok w =>
      rw [hr] at hk
      intro X' v s1 hX hv h1
      (try simp (maxSteps := 1000000) (dsimp := false) (disch := (first | omega | (simp only [okR]; done) | (simp only [sizeR] <;> omega) | fail)) only [↓preR, postR, ↓w_stop, Nat.reduceEqDiff, Nat.reduceAdd, Nat.reduceSub, Nat.reduceMul, Int.reduceNeg, Nat.reduceLT, Int.reduceToNat, Nat.reduceLeDiff, Nat.sub_zero])
      exact hk X' v _ hX hv h1
    | bad e =>
      rw [hr] at hk
      intro X' s1 hX h1
      (try simp (maxSteps := 1000000) (dsimp := false) (disch := (first | omega | (simp only [okR]; done) | (simp only [sizeR] <;> omega) | fail)) only [↓preR, postR, ↓w_stop, Nat.reduceEqDiff, Nat.reduceAdd, Nat.reduceSub, Nat.reduceMul, Int.reduceNeg, Nat.reduceLT, Int.reduceToNat, Nat.reduceLeDiff, Nat.sub_zero])
      exact hk X' _ hX h1
end
end Go.Proofs.YtmgdkoidgoihfaaGreatDoor

/- Words: a text in place. Conditions: as each theorem says. -/
namespace Go.Proofs.YtmgdkoidgoihfaaGreatDoor
open E Go.Lib
open Go.RowKit
set_option linter.unusedVariables false
set_option linter.unusedSimpArgs false
set_option maxHeartbeats 1000000
set_option maxRecDepth 20000

section
variable {σ σ' : AS} {X : Ce} {R : List Ck} {k : Value → AS → Prop} {p n i f : Nat} {e : Int} {out : List Pt} {s t : Str} {c : UInt8} {way : Nat} {q : Bool}
theorem here_c (h : Hs σ X R) (hk : WK X R k (wordW s 5)) (hs : s.length ≤ maxLen) : kCall Tryz.prog 8 [.string (bs s)] σ k := by
  unfold wordW at hk
  unfold maxLen at hs
  refine f8 ?_
  (try simp (maxSteps := 1000000) (dsimp := false) (disch := (first | omega | (simp only [okR]; done) | (simp only [sizeR] <;> omega) | fail)) only [↓preR, postR, ↓w_stop, Nat.reduceEqDiff, Nat.reduceAdd, Nat.reduceSub, Nat.reduceMul, Int.reduceNeg, Nat.reduceLT, Int.reduceToNat, Nat.reduceLeDiff, Nat.sub_zero, F8])
  refine join_now ?_
  by_cases hl : 4096 < s.length
  · rw [if_pos hl] at hk
    (try simp (maxSteps := 1000000) (dsimp := false) (disch := (first | omega | (simp only [okR]; done) | (simp only [sizeR] <;> omega) | fail)) only [↓preR, postR, ↓w_stop, Nat.reduceEqDiff, Nat.reduceAdd, Nat.reduceSub, Nat.reduceMul, Int.reduceNeg, Nat.reduceLT, Int.reduceToNat, Nat.reduceLeDiff, Nat.sub_zero])
    exact hk X _ (Ce.le_refl _) h
  · rw [if_neg hl] at hk
    (try simp (maxSteps := 1000000) (dsimp := false) (disch := (first | omega | (simp only [okR]; done) | (simp only [sizeR] <;> omega) | fail)) only [↓preR, postR, ↓w_stop, Nat.reduceEqDiff, Nat.reduceAdd, Nat.reduceSub, Nat.reduceMul, Int.reduceNeg, Nat.reduceLT, Int.reduceToNat, Nat.reduceLeDiff, Nat.sub_zero])
    refine read_c (s.length + 1) (way := 5) (by omega) (by omega) (by omega) h ?_
    cases hr : rdP (s.length + 1) s 5 [] with
    | ok w =>
      rw [hr] at hk
      intro X' v s1 hX hv h1
      (try simp (maxSteps := 1000000) (dsimp := false) (disch := (first | omega | (simp only [okR]; done) | (simp only [sizeR] <;> omega) | fail)) only [↓preR, postR, ↓w_stop, Nat.reduceEqDiff, Nat.reduceAdd, Nat.reduceSub, Nat.reduceMul, Int.reduceNeg, Nat.reduceLT, Int.reduceToNat, Nat.reduceLeDiff, Nat.sub_zero])
      exact hk X' v _ hX hv h1
    | bad e =>
      rw [hr] at hk
      intro X' s1 hX h1
      (try simp (maxSteps := 1000000) (dsimp := false) (disch := (first | omega | (simp only [okR]; done) | (simp only [sizeR] <;> omega) | fail)) only [↓preR, postR, ↓w_stop, Nat.reduceEqDiff, Nat.reduceAdd, Nat.reduceSub, Nat.reduceMul, Int.reduceNeg, Nat.reduceLT, Int.reduceToNat, Nat.reduceLeDiff, Nat.sub_zero])
      exact hk X' _ hX h1
end
end Go.Proofs.YtmgdkoidgoihfaaGreatDoor
