/- Words, as the document has them: the reader's calls. Conditions: as each theorem says. -/
import Derived.Test.YtmgdkoidgoihfaaGreatDoorWdG
import Derived.Test.YtmgdkoidgoihfaaGreatDoorNmR
import Derived.Test.YtmgdkoidgoihfaaGreatDoorPcR
import Derived.Test.YtmgdkoidgoihfaaGreatDoorWdL
import Derived.Test.YtmgdkoidgoihfaaGreatDoorWdS
namespace Go.Proofs.YtmgdkoidgoihfaaGreatDoor
open E Go.Lib
open Go.RowKit
set_option linter.unusedVariables false
set_option linter.unusedSimpArgs false
set_option maxHeartbeats 1000000
set_option maxRecDepth 20000

section
variable {σ σ' : AS} {X : Ce} {R : List Ck} {k : Value → AS → Prop} {p n i f : Nat} {e : Int} {out : List Pt} {s t : Str} {c : UInt8} {way : Nat} {q : Bool}
theorem qall_c (hw : way ≤ 5) (hk : k (.bool (withinB way)) σ) : kCall Tryz.prog 30 [.int .i64 way] σ k := by
  refine f30 ?_
  have : way = 0 ∨ way = 1 ∨ way = 2 ∨ way = 3 ∨ way = 4 ∨ way = 5 := by omega
  rcases this with rfl | rfl | rfl | rfl | rfl | rfl <;> ((try simp (maxSteps := 1000000) (dsimp := false) (disch := (first | omega | (simp only [okR]; done) | (simp only [sizeR] <;> omega) | fail)) only [↓preR, postR, ↓w_join, Nat.reduceEqDiff, Nat.reduceAdd, Nat.reduceSub, Nat.reduceMul, Int.reduceNeg, Nat.reduceLT, Int.reduceToNat, Nat.reduceLeDiff, Nat.sub_zero, F30]); exact hk)
theorem meta_def (c : UInt8) : metaB c = (decide (c.toNat = 32) || (decide (c.toNat = 9) || (decide (c.toNat = 10) || (decide (c.toNat = 124) || (decide (c.toNat = 38) || (decide (c.toNat = 59) || (decide (c.toNat = 60) || (decide (c.toNat = 62) || (decide (c.toNat = 40) || decide (c.toNat = 41)))))))))) := by
  have h : ∀ x : UInt8, (c == x) = decide (c.toNat = x.toNat) := fun x => by
    by_cases e : c = x
    · subst e; simp
    · have : ¬ c.toNat = x.toNat := fun h => e (UInt8.toNat_inj.1 h)
      simp [e, this]
  unfold metaB
  simp only [List.contains_cons, List.contains_nil, h, Bool.or_false]
  rfl
theorem qmeta_c {m : Int} (hm : m = c.toNat) (hk : k (.bool (metaB c)) σ) : kCall Tryz.prog 52 [.int .u8 m] σ k := by
  subst hm
  refine f52 ?_
  rw [meta_def] at hk
  (try simp (maxSteps := 1000000) (dsimp := false) (disch := (first | omega | (simp only [okR]; done) | (simp only [sizeR] <;> omega) | fail)) only [↓preR, postR, ↓w_stop, Nat.reduceEqDiff, Nat.reduceAdd, Nat.reduceSub, Nat.reduceMul, Int.reduceNeg, Nat.reduceLT, Int.reduceToNat, Nat.reduceLeDiff, Nat.sub_zero, F52])
  refine join_now ?_
  (try simp (maxSteps := 1000000) (dsimp := false) (disch := (first | omega | (simp only [okR]; done) | (simp only [sizeR] <;> omega) | fail)) only [↓preR, postR, ↓w_stop, Nat.reduceEqDiff, Nat.reduceAdd, Nat.reduceSub, Nat.reduceMul, Int.reduceNeg, Nat.reduceLT, Int.reduceToNat, Nat.reduceLeDiff, Nat.sub_zero])
  refine join_now ?_
  by_cases h1 : c.toNat = 32
  · simp only [h1, decide_true, Bool.true_or] at hk
    (try simp (maxSteps := 1000000) (dsimp := false) (disch := (first | omega | (simp only [okR]; done) | (simp only [sizeR] <;> omega) | fail)) only [↓preR, postR, ↓w_stop, Nat.reduceEqDiff, Nat.reduceAdd, Nat.reduceSub, Nat.reduceMul, Int.reduceNeg, Nat.reduceLT, Int.reduceToNat, Nat.reduceLeDiff, Nat.sub_zero]); exact hk
  by_cases h2 : c.toNat = 9
  · simp only [h2, decide_true, Bool.true_or, Bool.or_true] at hk
    (try simp (maxSteps := 1000000) (dsimp := false) (disch := (first | omega | (simp only [okR]; done) | (simp only [sizeR] <;> omega) | fail)) only [↓preR, postR, ↓w_stop, Nat.reduceEqDiff, Nat.reduceAdd, Nat.reduceSub, Nat.reduceMul, Int.reduceNeg, Nat.reduceLT, Int.reduceToNat, Nat.reduceLeDiff, Nat.sub_zero]); exact hk
  by_cases h3 : c.toNat = 10
  · simp only [h3, decide_true, Bool.true_or, Bool.or_true] at hk
    (try simp (maxSteps := 1000000) (dsimp := false) (disch := (first | omega | (simp only [okR]; done) | (simp only [sizeR] <;> omega) | fail)) only [↓preR, postR, ↓w_stop, Nat.reduceEqDiff, Nat.reduceAdd, Nat.reduceSub, Nat.reduceMul, Int.reduceNeg, Nat.reduceLT, Int.reduceToNat, Nat.reduceLeDiff, Nat.sub_zero]); exact hk
  by_cases h4 : c.toNat = 124
  · simp only [h4, decide_true, Bool.true_or, Bool.or_true] at hk
    (try simp (maxSteps := 1000000) (dsimp := false) (disch := (first | omega | (simp only [okR]; done) | (simp only [sizeR] <;> omega) | fail)) only [↓preR, postR, ↓w_stop, Nat.reduceEqDiff, Nat.reduceAdd, Nat.reduceSub, Nat.reduceMul, Int.reduceNeg, Nat.reduceLT, Int.reduceToNat, Nat.reduceLeDiff, Nat.sub_zero]); exact hk
  by_cases h5 : c.toNat = 38
  · simp only [h5, decide_true, Bool.true_or, Bool.or_true] at hk
    (try simp (maxSteps := 1000000) (dsimp := false) (disch := (first | omega | (simp only [okR]; done) | (simp only [sizeR] <;> omega) | fail)) only [↓preR, postR, ↓w_stop, Nat.reduceEqDiff, Nat.reduceAdd, Nat.reduceSub, Nat.reduceMul, Int.reduceNeg, Nat.reduceLT, Int.reduceToNat, Nat.reduceLeDiff, Nat.sub_zero]); exact hk
  by_cases h6 : c.toNat = 59
  · simp only [h6, decide_true, Bool.true_or, Bool.or_true] at hk
    (try simp (maxSteps := 1000000) (dsimp := false) (disch := (first | omega | (simp only [okR]; done) | (simp only [sizeR] <;> omega) | fail)) only [↓preR, postR, ↓w_stop, Nat.reduceEqDiff, Nat.reduceAdd, Nat.reduceSub, Nat.reduceMul, Int.reduceNeg, Nat.reduceLT, Int.reduceToNat, Nat.reduceLeDiff, Nat.sub_zero]); exact hk
  by_cases h7 : c.toNat = 60
  · simp only [h7, decide_true, Bool.true_or, Bool.or_true] at hk
    (try simp (maxSteps := 1000000) (dsimp := false) (disch := (first | omega | (simp only [okR]; done) | (simp only [sizeR] <;> omega) | fail)) only [↓preR, postR, ↓w_stop, Nat.reduceEqDiff, Nat.reduceAdd, Nat.reduceSub, Nat.reduceMul, Int.reduceNeg, Nat.reduceLT, Int.reduceToNat, Nat.reduceLeDiff, Nat.sub_zero]); exact hk
  by_cases h8 : c.toNat = 62
  · simp only [h8, decide_true, Bool.true_or, Bool.or_true] at hk
    (try simp (maxSteps := 1000000) (dsimp := false) (disch := (first | omega | (simp only [okR]; done) | (simp only [sizeR] <;> omega) | fail)) only [↓preR, postR, ↓w_stop, Nat.reduceEqDiff, Nat.reduceAdd, Nat.reduceSub, Nat.reduceMul, Int.reduceNeg, Nat.reduceLT, Int.reduceToNat, Nat.reduceLeDiff, Nat.sub_zero]); exact hk
  by_cases h9 : c.toNat = 40
  · simp only [h9, decide_true, Bool.true_or, Bool.or_true] at hk
    (try simp (maxSteps := 1000000) (dsimp := false) (disch := (first | omega | (simp only [okR]; done) | (simp only [sizeR] <;> omega) | fail)) only [↓preR, postR, ↓w_stop, Nat.reduceEqDiff, Nat.reduceAdd, Nat.reduceSub, Nat.reduceMul, Int.reduceNeg, Nat.reduceLT, Int.reduceToNat, Nat.reduceLeDiff, Nat.sub_zero]); exact hk
  by_cases h10 : c.toNat = 41
  · simp only [h10, decide_true, Bool.true_or, Bool.or_true] at hk
    (try simp (maxSteps := 1000000) (dsimp := false) (disch := (first | omega | (simp only [okR]; done) | (simp only [sizeR] <;> omega) | fail)) only [↓preR, postR, ↓w_stop, Nat.reduceEqDiff, Nat.reduceAdd, Nat.reduceSub, Nat.reduceMul, Int.reduceNeg, Nat.reduceLT, Int.reduceToNat, Nat.reduceLeDiff, Nat.sub_zero]); exact hk
  simp only [h1, h2, h3, h4, h5, h6, h7, h8, h9, h10, decide_false, Bool.false_or] at hk
  (try simp (maxSteps := 1000000) (dsimp := false) (disch := (first | omega | (simp only [okR]; done) | (simp only [sizeR] <;> omega) | fail)) only [↓preR, postR, ↓w_stop, Nat.reduceEqDiff, Nat.reduceAdd, Nat.reduceSub, Nat.reduceMul, Int.reduceNeg, Nat.reduceLT, Int.reduceToNat, Nat.reduceLeDiff, Nat.sub_zero]); exact hk
theorem qadd_c {p : Nat} {x : Pt} {v : Value} (hx : RpPt X x (ptC x v)) (hl : out.length ≤ 1000000) (ht : txt out + x.text.length ≤ 1000000) (h : Hs σ X (Rdr p out e :: R)) (hk : ∀ w σ', Hs σ' X (Rdr p (addP out x) e :: R) → k w σ') :
    kCall Tryz.prog 29 [pv p, ptV x v] σ k := by
  obtain ⟨va, vn, vc, rfl⟩ := hx.val
  obtain ⟨u, _, h⟩ := h.opened
  have h : Hs σ X (Cel p [u, .int .i64 e] :: E.Own (α := Pt) u out :: R) := h
  obtain ⟨ux, uc, rfl, huc⟩ := h.own1
  refine f29 ?_
  have h1 := h.new (cs := ptC x (.slice va vn vc))
  have e1 := h1.obj
  have e2 := h1.obj1
  (try simp (maxSteps := 1000000) (dsimp := false) (disch := (first | omega | (simp only [okR]; done) | (simp only [sizeR] <;> omega) | fail)) only [↓preR, postR, ↓w_stop, Nat.reduceEqDiff, Nat.reduceAdd, Nat.reduceSub, Nat.reduceMul, Int.reduceNeg, Nat.reduceLT, Int.reduceToNat, Nat.reduceLeDiff, Nat.sub_zero, F29, e1, e2])
  generalize AS.new σ _ = s1 at h1 e1 e2 ⊢
  generalize σ.n = q at h1 e1 ⊢
  clear h
  refine join_by fun J hJ => ?_
  have tail : addP out x = out ++ [x] → J [] s1 := by
    intro ha
    refine hJ _ _ ?_
    clear hJ
    have hz := h1.new (cs := [.int .i64 0, .string (bs []), .bool false, .int .i64 0, .bool false, .slice none 0 0])
    have z1 := hz.obj1
    have z2 := hz.obj2
    (try simp (maxSteps := 1000000) (dsimp := false) (disch := (first | omega | (simp only [okR]; done) | (simp only [sizeR] <;> omega) | fail)) only [↓preR, postR, ↓w_stop, Nat.reduceEqDiff, Nat.reduceAdd, Nat.reduceSub, Nat.reduceMul, Int.reduceNeg, Nat.reduceLT, Int.reduceToNat, Nat.reduceLeDiff, Nat.sub_zero, e1, e2, z1, z2])
    refine push_by (a := Pt.mk 0 [] false 0 false []) (h1.front 2 rfl) (e := 37) (bytes := 72) (by kernel_rfl) (by kernel_rfl) (RpPt.leaf (by simp [Pt.text, maxLen]) (by simp [Pt.kind, inI64]) (by simp [Pt.op, inI64]) rfl) (by omega) (by unfold maxLen; omega) fun v' s2 h2 => ?_
    obtain ⟨g, c, ys, rfl, hc1, hc2, hm, hle, hset⟩ := Own.elem (n := out.length) h2 (by simp)
    have h3 := hset x _ hx
    rw [List.set_append_right _ _ (Nat.le_refl _), Nat.sub_self, List.set_cons_zero, ← ha] at h3
    have hlen : ((out ++ [Pt.mk 0 [] false 0 false []]).length : Int) = (out.length : Int) + 1 := by simp
    have hle' : out.length * 6 + 6 ≤ ys.length := hle
    have e3 := (h2.front 2 rfl).obj
    have e4 := (h3.front 2 rfl).obj
    have h4 := (((h3.front 2 rfl).put (cs' := [.slice (some ⟨g, 0, none⟩) (out ++ [Pt.mk 0 [] false 0 false []]).length c, .int .i64 e])))
    have fin : ∀ s3, Hs s3 X (Cel p [.slice (some ⟨g, 0, none⟩) (out ++ [Pt.mk 0 [] false 0 false []]).length c, .int .i64 e] :: E.Own (α := Pt) (.slice (some ⟨g, 0, none⟩) (out ++ [Pt.mk 0 [] false 0 false []]).length c) (addP out x) :: Cel q (ptC x (.slice va vn vc)) :: R) → k undef s3 := by
      intro s3 h5
      refine hk _ _ (Hs.closed (f := fun u => [Cel p [u, .int .i64 e], E.Own (α := Pt) u (addP out x)]) (.slice (some ⟨g, 0, none⟩) (out ++ [Pt.mk 0 [] false 0 false []]).length c) trivial ?_)
      exact (h5.front 2 rfl).drop
    have e4' : (s2.put g (.cells (ys.take (out.length * 6) ++ ptC x (.slice va vn vc) ++ ys.drop (out.length * 6 + 6)))).m p = some (.cells [.slice ux out.length uc, .int .i64 e]) := e4
    (try simp (maxSteps := 1000000) (dsimp := false) (disch := (first | omega | (simp only [okR]; done) | (simp only [sizeR] <;> omega) | fail)) only [↓preR, postR, ↓w_stop, Nat.reduceEqDiff, Nat.reduceAdd, Nat.reduceSub, Nat.reduceMul, Int.reduceNeg, Nat.reduceLT, Int.reduceToNat, Nat.reduceLeDiff, Nat.sub_zero])
    refine alt_i ?_ ?_
    · (try simp (maxSteps := 1000000) (dsimp := false) (disch := (first | omega | (simp only [okR]; done) | (simp only [sizeR] <;> omega) | fail)) only [↓preR, postR, ↓w_stop, Nat.reduceEqDiff, Nat.reduceAdd, Nat.reduceSub, Nat.reduceMul, Int.reduceNeg, Nat.reduceLT, Int.reduceToNat, Nat.reduceLeDiff, Nat.sub_zero, hm, hle', e4'])
      exact fin _ h4
    · have h5 := (h2.front 2 rfl).put (cs' := [.slice (some ⟨g, 0, none⟩) (out ++ [Pt.mk 0 [] false 0 false []]).length c, .int .i64 e])
      obtain ⟨g', c', ys', e5, _, _, hm', hl2, hset'⟩ := Own.elem (n := out.length) h5.swap (by simp)
      injection e5 with e5 _ _
      injection e5 with e5
      injection e5 with e5 _ _
      subst e5
      have hl2' : out.length * 6 + 6 ≤ ys'.length := hl2
      have h6 := hset' x _ hx
      rw [List.set_append_right _ _ (Nat.le_refl _), Nat.sub_self, List.set_cons_zero, ← ha] at h6
      (try simp (maxSteps := 1000000) (dsimp := false) (disch := (first | omega | (simp only [okR]; done) | (simp only [sizeR] <;> omega) | fail)) only [↓preR, postR, ↓w_stop, Nat.reduceEqDiff, Nat.reduceAdd, Nat.reduceSub, Nat.reduceMul, Int.reduceNeg, Nat.reduceLT, Int.reduceToNat, Nat.reduceLeDiff, Nat.sub_zero, e3, hm', hl2'])
      exact fin _ h6.swap
  by_cases k1 : x.kind = 1
  rotate_left
  · (try simp (maxSteps := 1000000) (dsimp := false) (disch := (first | omega | (simp only [okR]; done) | (simp only [sizeR] <;> omega) | fail)) only [↓preR, postR, ↓w_stop, Nat.reduceEqDiff, Nat.reduceAdd, Nat.reduceSub, Nat.reduceMul, Int.reduceNeg, Nat.reduceLT, Int.reduceToNat, Nat.reduceLeDiff, Nat.sub_zero, e1, e2, k1])
    refine tail ?_
    unfold addP
    split
    · rw [if_neg (fun h => k1 h.1)]
    · rfl
  by_cases h0 : out.length = 0
  · have h0' : ¬ (0 : Int) ≤ (out.length : Int) - 1 := by omega
    (try simp (maxSteps := 1000000) (dsimp := false) (disch := (first | omega | (simp only [okR]; done) | (simp only [sizeR] <;> omega) | fail)) only [↓preR, postR, ↓w_stop, Nat.reduceEqDiff, Nat.reduceAdd, Nat.reduceSub, Nat.reduceMul, Int.reduceNeg, Nat.reduceLT, Int.reduceToNat, Nat.reduceLeDiff, Nat.sub_zero, e1, e2, k1, h0'])
    refine tail ?_
    have : out = [] := List.eq_nil_of_length_eq_zero h0
    subst this
    rfl
  have hn : out.length - 1 < out.length := by omega
  obtain ⟨g, c, cs, ys, eu, hc1, hc2, hr, hm, hle, hat, hset⟩ := Own.cell (n := out.length - 1) (h1.front 2 rfl) hn
  injection eu with eu _ _
  subst eu
  obtain ⟨w, rfl, g1, g2, g3, g4⟩ := RpPt.get (show RpPt X _ _ from hr)
  have y0 : ys[(out.length - 1) * 6]? = some (.int .i64 (out[out.length - 1]).kind) := hat 0 _ rfl
  have y1 : ys[(out.length - 1) * 6 + 1]? = some (.string (bs (out[out.length - 1]).text)) := hat 1 _ rfl
  have y2 : ys[(out.length - 1) * 6 + 2]? = some (.bool (out[out.length - 1]).quote) := hat 2 _ rfl
  have hle2 : (out.length - 1 + 1) * 6 ≤ ys.length := hle
  have hgt : out[out.length - 1]? = some out[out.length - 1] := List.getElem?_eq_getElem hn
  have htx : (out[out.length - 1]).text.length ≤ txt out := by
    have key : ∀ (l : List Pt) (i : Nat) (hi : i < l.length), (l[i]).text.length ≤ txt l := by
      intro l
      induction l with
      | nil => intro i hi; simp at hi
      | cons a l ih =>
        intro i hi
        cases i with
        | zero => simp [txt]
        | succ i => have := ih i (by simpa using hi); simp only [List.getElem_cons_succ, txt]; omega
    exact key _ _ _
  generalize hll : out[out.length - 1] = l at *
  by_cases k2 : l.kind = 1
  rotate_left
  · (try simp (maxSteps := 1000000) (dsimp := false) (disch := (first | omega | (simp only [okR]; done) | (simp only [sizeR] <;> omega) | fail)) only [↓preR, postR, ↓w_stop, Nat.reduceEqDiff, Nat.reduceAdd, Nat.reduceSub, Nat.reduceMul, Int.reduceNeg, Nat.reduceLT, Int.reduceToNat, Nat.reduceLeDiff, Nat.sub_zero, e1, e2, k1, hm, y0, k2])
    refine tail ?_
    unfold addP
    rw [hgt]
    simp only [k2, false_and, and_false, if_false]
  by_cases k3 : l.quote = x.quote
  rotate_left
  · have k3' : (l.quote == x.quote) = false := by simpa using k3
    (try simp (maxSteps := 1000000) (dsimp := false) (disch := (first | omega | (simp only [okR]; done) | (simp only [sizeR] <;> omega) | fail)) only [↓preR, postR, ↓w_stop, Nat.reduceEqDiff, Nat.reduceAdd, Nat.reduceSub, Nat.reduceMul, Int.reduceNeg, Nat.reduceLT, Int.reduceToNat, Nat.reduceLeDiff, Nat.sub_zero, e1, e2, k1, hm, y0, y2, k2, k3'])
    refine tail ?_
    unfold addP
    rw [hgt]
    simp only [k3, and_false, if_false]
  have k3' : (l.quote == x.quote) = true := by simpa using k3
  have h5 := hset 1 (.string (bs (l.text ++ x.text))) (l.more x.text) (by decide) (RpPt.made (p := l.more x.text) (v := w) (by show (l.text ++ x.text).length ≤ maxLen; rw [List.length_append]; unfold maxLen; omega) g2 g3 g4)
  (try simp (maxSteps := 1000000) (dsimp := false) (disch := (first | omega | (simp only [okR]; done) | (simp only [sizeR] <;> omega) | fail)) only [↓preR, postR, ↓w_stop, Nat.reduceEqDiff, Nat.reduceAdd, Nat.reduceSub, Nat.reduceMul, Int.reduceNeg, Nat.reduceLT, Int.reduceToNat, Nat.reduceLeDiff, Nat.sub_zero, e1, e2, k1, hm, y0, y1, y2, k2, k3'])
  have ha : addP out x = out.set (out.length - 1) (l.more x.text) := by
    unfold addP
    rw [hgt]
    simp only [k1, k2, k3, and_self, if_true]
  rw [ha] at hk
  refine hk _ _ (Hs.closed (f := fun u => [Cel p [u, .int .i64 e], E.Own (α := Pt) u (out.set (out.length - 1) (l.more x.text))]) (.slice (some ⟨g, 0, none⟩) out.length uc) trivial ?_)
  exact (h5.front 2 rfl).front 2 rfl |>.drop
theorem qlit_c (hf : FitW out n) (hn : n + s.length ≤ 1000000) (h : Hs σ X (Rdr p out e :: R)) (hk : ∀ w σ', Hs σ' X (Rdr p (addP out (litP s q)) e :: R) → k w σ') :
    kCall Tryz.prog 53 [pv p, .string (bs s), .bool q] σ k := by
  refine f53 ?_
  (simp (maxSteps := 1000000) (dsimp := false) (disch := (first | omega | (simp only [okR]; done) | (simp only [sizeR] <;> omega) | fail)) only [↓preR, postR, ↓w_join, Nat.reduceEqDiff, Nat.reduceAdd, Nat.reduceSub, Nat.reduceMul, Int.reduceNeg, Nat.reduceLT, Int.reduceToNat, Nat.reduceLeDiff, Nat.sub_zero, F53])
  refine qadd_c (x := litP s q) (v := .slice none 0 0) (litOk (by unfold maxLen; omega)) (by have := hf.1; omega) (by have := hf.2; show txt out + s.length ≤ _; omega) h fun w σ1 h1 => ?_
  exact hk _ _ h1
theorem qpair_c (hf : FitW out n) (hn : n ≤ 900000) (hw : way ≤ 5) (ht : t = [92] ∨ ∃ c, t = [92, c]) (h : Hs σ X (Rdr p out e :: R)) (hk : ∀ w σ', Hs σ' X (Rdr p (pairP t way out) e :: R) → k w σ') :
    kCall Tryz.prog 51 [pv p, .string (bs t), .int .i64 way] σ k := by
  refine f51 ?_
  rcases ht with rfl | ⟨c, rfl⟩
  · (try simp (maxSteps := 1000000) (dsimp := false) (disch := (first | omega | (simp only [okR]; done) | (simp only [sizeR] <;> omega) | fail)) only [↓preR, postR, ↓w_stop, Nat.reduceEqDiff, Nat.reduceAdd, Nat.reduceSub, Nat.reduceMul, Int.reduceNeg, Nat.reduceLT, Int.reduceToNat, Nat.reduceLeDiff, Nat.sub_zero, F51])
    refine join_now ?_
    (try simp (maxSteps := 1000000) (dsimp := false) (disch := (first | omega | (simp only [okR]; done) | (simp only [sizeR] <;> omega) | fail)) only [↓preR, postR, ↓w_stop, Nat.reduceEqDiff, Nat.reduceAdd, Nat.reduceSub, Nat.reduceMul, Int.reduceNeg, Nat.reduceLT, Int.reduceToNat, Nat.reduceLeDiff, Nat.sub_zero])
    exact qlit_c hf (by simp; omega) h fun w σ1 h1 => hk _ _ h1
  have i10 := u8_eq (c := c) (x := 10) (n := 10) rfl
  have i34 := u8_eq (c := c) (x := 34) (n := 34) rfl
  have i36 := u8_eq (c := c) (x := 36) (n := 36) rfl
  have i92 := u8_eq (c := c) (x := 92) (n := 92) rfl
  have i96 := u8_eq (c := c) (x := 96) (n := 96) rfl
  have i125 := u8_eq (c := c) (x := 125) (n := 125) rfl
  have hp : pairP [92, c] way out = if c = 10 then out else if (withinB way && (decide (c = 34 ∧ way = 5) || (!([36, 34, 92, 96] : Str).contains c && !decide (c = 125 ∧ way = 3)))) = true then addP out (litP [92, c] true) else addP out (litP [c] true) := rfl
  have hcon : ([36, 34, 92, 96] : Str).contains c = decide (c = 36 ∨ c = 34 ∨ c = 92 ∨ c = 96) := by
    by_cases a : c = 36
    · subst a; decide
    by_cases b : c = 34
    · subst b; decide
    by_cases d : c = 92
    · subst d; decide
    by_cases g : c = 96
    · subst g; decide
    · simp [a, b, d, g]
  rw [hp, hcon] at hk
  (try simp (maxSteps := 1000000) (dsimp := false) (disch := (first | omega | (simp only [okR]; done) | (simp only [sizeR] <;> omega) | fail)) only [↓preR, postR, ↓w_stop, Nat.reduceEqDiff, Nat.reduceAdd, Nat.reduceSub, Nat.reduceMul, Int.reduceNeg, Nat.reduceLT, Int.reduceToNat, Nat.reduceLeDiff, Nat.sub_zero, F51])
  refine join_now ?_
  (try simp (maxSteps := 1000000) (dsimp := false) (disch := (first | omega | (simp only [okR]; done) | (simp only [sizeR] <;> omega) | fail)) only [↓preR, postR, ↓w_stop, Nat.reduceEqDiff, Nat.reduceAdd, Nat.reduceSub, Nat.reduceMul, Int.reduceNeg, Nat.reduceLT, Int.reduceToNat, Nat.reduceLeDiff, Nat.sub_zero, Option.getD_some])
  refine join_now ?_
  by_cases h10 : c.toNat = 10
  · rw [if_pos (i10.2 h10)] at hk
    (try simp (maxSteps := 1000000) (dsimp := false) (disch := (first | omega | (simp only [okR]; done) | (simp only [sizeR] <;> omega) | fail)) only [↓preR, postR, ↓w_stop, Nat.reduceEqDiff, Nat.reduceAdd, Nat.reduceSub, Nat.reduceMul, Int.reduceNeg, Nat.reduceLT, Int.reduceToNat, Nat.reduceLeDiff, Nat.sub_zero])
    exact hk _ _ h
  rw [if_neg (fun h => h10 (i10.1 h))] at hk
  simp only [i34, i36, i92, i96, i125] at hk
  (try simp (maxSteps := 1000000) (dsimp := false) (disch := (first | omega | (simp only [okR]; done) | (simp only [sizeR] <;> omega) | fail)) only [↓preR, postR, ↓w_stop, Nat.reduceEqDiff, Nat.reduceAdd, Nat.reduceSub, Nat.reduceMul, Int.reduceNeg, Nat.reduceLT, Int.reduceToNat, Nat.reduceLeDiff, Nat.sub_zero])
  refine qall_c hw ?_
  have yes : (∀ w σ', Hs σ' X (Rdr p (addP out (litP [92, c] true)) e :: R) → k w σ') → kCall Tryz.prog 53 [pv p, .string (bs [92, c]), .bool true] σ fun v s => k undef s := fun hk => qlit_c hf (by simp; omega) h fun w σ1 h1 => hk _ _ h1
  have no : (∀ w σ', Hs σ' X (Rdr p (addP out (litP [c] true)) e :: R) → k w σ') → kCall Tryz.prog 53 [pv p, .string (bs [c]), .bool true] σ fun v s => k undef s := fun hk => qlit_c hf (by simp; omega) h fun w σ1 h1 => hk _ _ h1
  cases hb : withinB way with
  | false =>
    rw [hb] at hk
    simp only [Bool.false_and, Bool.false_eq_true, if_false] at hk
    (try simp (maxSteps := 1000000) (dsimp := false) (disch := (first | omega | (simp only [okR]; done) | (simp only [sizeR] <;> omega) | fail)) only [↓preR, postR, ↓w_stop, Nat.reduceEqDiff, Nat.reduceAdd, Nat.reduceSub, Nat.reduceMul, Int.reduceNeg, Nat.reduceLT, Int.reduceToNat, Nat.reduceLeDiff, Nat.sub_zero])
    exact no hk
  | true =>
    rw [hb] at hk
    by_cases h36 : c.toNat = 36
    · simp [h36] at hk
      (try simp (maxSteps := 1000000) (dsimp := false) (disch := (first | omega | (simp only [okR]; done) | (simp only [sizeR] <;> omega) | fail)) only [↓preR, postR, ↓w_stop, Nat.reduceEqDiff, Nat.reduceAdd, Nat.reduceSub, Nat.reduceMul, Int.reduceNeg, Nat.reduceLT, Int.reduceToNat, Nat.reduceLeDiff, Nat.sub_zero])
      exact no hk
    by_cases h92 : c.toNat = 92
    · simp [h92] at hk
      (try simp (maxSteps := 1000000) (dsimp := false) (disch := (first | omega | (simp only [okR]; done) | (simp only [sizeR] <;> omega) | fail)) only [↓preR, postR, ↓w_stop, Nat.reduceEqDiff, Nat.reduceAdd, Nat.reduceSub, Nat.reduceMul, Int.reduceNeg, Nat.reduceLT, Int.reduceToNat, Nat.reduceLeDiff, Nat.sub_zero])
      exact no hk
    by_cases h96 : c.toNat = 96
    · simp [h96] at hk
      (try simp (maxSteps := 1000000) (dsimp := false) (disch := (first | omega | (simp only [okR]; done) | (simp only [sizeR] <;> omega) | fail)) only [↓preR, postR, ↓w_stop, Nat.reduceEqDiff, Nat.reduceAdd, Nat.reduceSub, Nat.reduceMul, Int.reduceNeg, Nat.reduceLT, Int.reduceToNat, Nat.reduceLeDiff, Nat.sub_zero])
      exact no hk
    by_cases h34 : c.toNat = 34
    · by_cases h5 : way = 5
      · simp [h34, h5] at hk
        (try simp (maxSteps := 1000000) (dsimp := false) (disch := (first | omega | (simp only [okR]; done) | (simp only [sizeR] <;> omega) | fail)) only [↓preR, postR, ↓w_stop, Nat.reduceEqDiff, Nat.reduceAdd, Nat.reduceSub, Nat.reduceMul, Int.reduceNeg, Nat.reduceLT, Int.reduceToNat, Nat.reduceLeDiff, Nat.sub_zero])
        exact yes hk
      · simp [h34, h5] at hk
        (try simp (maxSteps := 1000000) (dsimp := false) (disch := (first | omega | (simp only [okR]; done) | (simp only [sizeR] <;> omega) | fail)) only [↓preR, postR, ↓w_stop, Nat.reduceEqDiff, Nat.reduceAdd, Nat.reduceSub, Nat.reduceMul, Int.reduceNeg, Nat.reduceLT, Int.reduceToNat, Nat.reduceLeDiff, Nat.sub_zero])
        exact no hk
    by_cases h125 : c.toNat = 125
    · by_cases h3 : way = 3
      · simp [h125, h3] at hk
        (try simp (maxSteps := 1000000) (dsimp := false) (disch := (first | omega | (simp only [okR]; done) | (simp only [sizeR] <;> omega) | fail)) only [↓preR, postR, ↓w_stop, Nat.reduceEqDiff, Nat.reduceAdd, Nat.reduceSub, Nat.reduceMul, Int.reduceNeg, Nat.reduceLT, Int.reduceToNat, Nat.reduceLeDiff, Nat.sub_zero])
        exact no hk
      · simp [h125, h3] at hk
        (try simp (maxSteps := 1000000) (dsimp := false) (disch := (first | omega | (simp only [okR]; done) | (simp only [sizeR] <;> omega) | fail)) only [↓preR, postR, ↓w_stop, Nat.reduceEqDiff, Nat.reduceAdd, Nat.reduceSub, Nat.reduceMul, Int.reduceNeg, Nat.reduceLT, Int.reduceToNat, Nat.reduceLeDiff, Nat.sub_zero])
        exact yes hk
    simp [h36, h92, h96, h34, h125] at hk
    (try simp (maxSteps := 1000000) (dsimp := false) (disch := (first | omega | (simp only [okR]; done) | (simp only [sizeR] <;> omega) | fail)) only [↓preR, postR, ↓w_stop, Nat.reduceEqDiff, Nat.reduceAdd, Nat.reduceSub, Nat.reduceMul, Int.reduceNeg, Nat.reduceLT, Int.reduceToNat, Nat.reduceLeDiff, Nat.sub_zero])
    exact yes hk
theorem four_has (c : UInt8) : signs4.contains c = (decide (c.toNat = 64) || (decide (c.toNat = 42) || (decide (c.toNat = 35) || decide (c.toNat = 63)))) := by
  have h : ∀ x : UInt8, (c == x) = decide (c.toNat = x.toNat) := fun x => by
    by_cases e : c = x
    · subst e; simp
    · have : ¬ c.toNat = x.toNat := fun h => e (UInt8.toNat_inj.1 h)
      simp [e, this]
  unfold signs4
  simp only [List.contains_cons, List.contains_nil, h, Bool.or_false]
  rfl
theorem dig_four {c : UInt8} (h : signs4.contains c = true) : digitB c = false := by
  rw [four_has] at h
  simp only [Bool.or_eq_true, decide_eq_true_eq] at h
  unfold digitB
  rcases h with h | h | h | h <;> simp [h]
theorem qparam_c (hs : s.length ≤ 1000000) (hk : k (.int .i64 (paramN s)) σ) : kCall Tryz.prog 75 [.string (bs s)] σ k := by
  refine f75 ?_
  have hfl := front_le s 0
  unfold paramN at hk
  (try simp (maxSteps := 1000000) (dsimp := false) (disch := (first | omega | (simp only [okR]; done) | (simp only [sizeR] <;> omega) | fail)) only [↓preR, postR, ↓w_stop, Nat.reduceEqDiff, Nat.reduceAdd, Nat.reduceSub, Nat.reduceMul, Int.reduceNeg, Nat.reduceLT, Int.reduceToNat, Nat.reduceLeDiff, Nat.sub_zero, F75])
  refine join_now ?_
  cases s with
  | nil =>
    (try simp (maxSteps := 1000000) (dsimp := false) (disch := (first | omega | (simp only [okR]; done) | (simp only [sizeR] <;> omega) | fail)) only [↓preR, postR, ↓w_stop, Nat.reduceEqDiff, Nat.reduceAdd, Nat.reduceSub, Nat.reduceMul, Int.reduceNeg, Nat.reduceLT, Int.reduceToNat, Nat.reduceLeDiff, Nat.sub_zero])
    exact hk
  | cons c r =>
  have hne : (c :: r = []) = False := by simp
  have hlen : (c :: r).length = r.length + 1 := rfl
  have hhd : (c :: r).head? = some c := rfl
  (try simp (maxSteps := 1000000) (dsimp := false) (disch := (first | omega | (simp only [okR]; done) | (simp only [sizeR] <;> omega) | fail)) only [↓preR, postR, ↓w_stop, Nat.reduceEqDiff, Nat.reduceAdd, Nat.reduceSub, Nat.reduceMul, Int.reduceNeg, Nat.reduceLT, Int.reduceToNat, Nat.reduceLeDiff, Nat.sub_zero, hne])
  refine join_now ?_
  refine rfront_c (by unfold maxLen; omega) ?_
  by_cases h0 : 0 < frontF 0 (c :: r)
  · rw [if_pos h0] at hk
    (try simp (maxSteps := 1000000) (dsimp := false) (disch := (first | omega | (simp only [okR]; done) | (simp only [sizeR] <;> omega) | fail)) only [↓preR, postR, ↓w_stop, Nat.reduceEqDiff, Nat.reduceAdd, Nat.reduceSub, Nat.reduceMul, Int.reduceNeg, Nat.reduceLT, Int.reduceToNat, Nat.reduceLeDiff, Nat.sub_zero])
    refine rfront_c (by unfold maxLen; omega) ?_
    (try simp (maxSteps := 1000000) (dsimp := false) (disch := (first | omega | (simp only [okR]; done) | (simp only [sizeR] <;> omega) | fail)) only [↓preR, postR, ↓w_stop, Nat.reduceEqDiff, Nat.reduceAdd, Nat.reduceSub, Nat.reduceMul, Int.reduceNeg, Nat.reduceLT, Int.reduceToNat, Nat.reduceLeDiff, Nat.sub_zero])
    exact hk
  rw [if_neg h0] at hk
  (try simp (maxSteps := 1000000) (dsimp := false) (disch := (first | omega | (simp only [okR]; done) | (simp only [sizeR] <;> omega) | fail)) only [↓preR, postR, ↓w_stop, Nat.reduceEqDiff, Nat.reduceAdd, Nat.reduceSub, Nat.reduceMul, Int.reduceNeg, Nat.reduceLT, Int.reduceToNat, Nat.reduceLeDiff, Nat.sub_zero])
  refine join_by fun J3 hJ3 => ?_
  have h4 := four_has c
  have tail : signs4.contains c = false → J3 [] σ := by
    intro hc
    have hdl := dig_le (c :: r)
    refine hJ3 _ _ ?_
    clear hJ3
    (try simp (maxSteps := 1000000) (dsimp := false) (disch := (first | omega | (simp only [okR]; done) | (simp only [sizeR] <;> omega) | fail)) only [↓preR, postR, ↓w_stop, Nat.reduceEqDiff, Nat.reduceAdd, Nat.reduceSub, Nat.reduceMul, Int.reduceNeg, Nat.reduceLT, Int.reduceToNat, Nat.reduceLeDiff, Nat.sub_zero])
    refine join_by fun J4 hJ4 => ?_
    have tail4 : J4 [.int .i64 (digN (c :: r))] σ := by
      refine hJ4 _ _ ?_
      clear hJ4
      have i48 := u8_eq (c := c) (x := 48) (n := 48) rfl
      rw [hhd] at hk
      (try simp (maxSteps := 1000000) (dsimp := false) (disch := (first | omega | (simp only [okR]; done) | (simp only [sizeR] <;> omega) | fail)) only [↓preR, postR, ↓w_stop, Nat.reduceEqDiff, Nat.reduceAdd, Nat.reduceSub, Nat.reduceMul, Int.reduceNeg, Nat.reduceLT, Int.reduceToNat, Nat.reduceLeDiff, Nat.sub_zero])
      refine join_now ?_
      by_cases h3 : 3 < digN (c :: r)
      · rw [if_pos (.inl h3)] at hk
        (try simp (maxSteps := 1000000) (dsimp := false) (disch := (first | omega | (simp only [okR]; done) | (simp only [sizeR] <;> omega) | fail)) only [↓preR, postR, ↓w_stop, Nat.reduceEqDiff, Nat.reduceAdd, Nat.reduceSub, Nat.reduceMul, Int.reduceNeg, Nat.reduceLT, Int.reduceToNat, Nat.reduceLeDiff, Nat.sub_zero])
        exact hk
      by_cases h1 : 1 < digN (c :: r)
      · by_cases h48 : c.toNat = 48
        · rw [if_pos (.inr ⟨h1, by rw [i48.2 h48]⟩)] at hk
          (try simp (maxSteps := 1000000) (dsimp := false) (disch := (first | omega | (simp only [okR]; done) | (simp only [sizeR] <;> omega) | fail)) only [↓preR, postR, ↓w_stop, Nat.reduceEqDiff, Nat.reduceAdd, Nat.reduceSub, Nat.reduceMul, Int.reduceNeg, Nat.reduceLT, Int.reduceToNat, Nat.reduceLeDiff, Nat.sub_zero, hlen, Option.getD_some])
          exact hk
        · rw [if_neg (by
            rintro (h | ⟨_, h⟩)
            · exact h3 h
            · injection h with h; exact h48 (i48.1 h)), if_pos (by omega)] at hk
          (try simp (maxSteps := 1000000) (dsimp := false) (disch := (first | omega | (simp only [okR]; done) | (simp only [sizeR] <;> omega) | fail)) only [↓preR, postR, ↓w_stop, Nat.reduceEqDiff, Nat.reduceAdd, Nat.reduceSub, Nat.reduceMul, Int.reduceNeg, Nat.reduceLT, Int.reduceToNat, Nat.reduceLeDiff, Nat.sub_zero, hlen, Option.getD_some])
          exact hk
      · rw [if_neg (by omega)] at hk
        by_cases hd : 0 < digN (c :: r)
        · rw [if_pos hd] at hk
          (try simp (maxSteps := 1000000) (dsimp := false) (disch := (first | omega | (simp only [okR]; done) | (simp only [sizeR] <;> omega) | fail)) only [↓preR, postR, ↓w_stop, Nat.reduceEqDiff, Nat.reduceAdd, Nat.reduceSub, Nat.reduceMul, Int.reduceNeg, Nat.reduceLT, Int.reduceToNat, Nat.reduceLeDiff, Nat.sub_zero])
          exact hk
        · rw [if_neg hd] at hk
          simp only [hc, Bool.false_eq_true, if_false] at hk
          have hz : digN (c :: r) = 0 := by omega
          rw [hz]
          (try simp (maxSteps := 1000000) (dsimp := false) (disch := (first | omega | (simp only [okR]; done) | (simp only [sizeR] <;> omega) | fail)) only [↓preR, postR, ↓w_stop, Nat.reduceEqDiff, Nat.reduceAdd, Nat.reduceSub, Nat.reduceMul, Int.reduceNeg, Nat.reduceLT, Int.reduceToNat, Nat.reduceLeDiff, Nat.sub_zero])
          exact hk
    clear hJ4
    (try simp (maxSteps := 1000000) (dsimp := false) (disch := (first | omega | (simp only [okR]; done) | (simp only [sizeR] <;> omega) | fail)) only [↓preR, postR, ↓w_stop, Nat.reduceEqDiff, Nat.reduceAdd, Nat.reduceSub, Nat.reduceMul, Int.reduceNeg, Nat.reduceLT, Int.reduceToNat, Nat.reduceLeDiff, Nat.sub_zero])
    refine loop_inv (fun nn xs s1 => ∃ j : Nat, xs = [.int .i64 j] ∧ σ = s1 ∧ j ≤ (c :: r).length ∧ j + digN ((c :: r).drop j) = digN (c :: r) ∧ nn = (c :: r).length - j) _ ⟨0, rfl, rfl, Nat.zero_le _, by simp, rfl⟩ ?_
    rintro _ _ s1 again ⟨j, rfl, rfl, hj, hf, rfl⟩ hag
    (try simp (maxSteps := 1000000) (dsimp := false) (disch := (first | omega | (simp only [okR]; done) | (simp only [sizeR] <;> omega) | fail)) only [↓preR, postR, ↓w_stop, Nat.reduceEqDiff, Nat.reduceAdd, Nat.reduceSub, Nat.reduceMul, Int.reduceNeg, Nat.reduceLT, Int.reduceToNat, Nat.reduceLeDiff, Nat.sub_zero])
    refine join_now ?_
    generalize c :: r = s at *
    by_cases hlt : j < s.length
    · rw [List.drop_eq_getElem_cons hlt] at hf
      have hg : (s[j]?.getD 0) = s[j] := by simp [hlt]
      (try simp (maxSteps := 1000000) (dsimp := false) (disch := (first | omega | (simp only [okR]; done) | (simp only [sizeR] <;> omega) | fail)) only [↓preR, postR, ↓w_stop, Nat.reduceEqDiff, Nat.reduceAdd, Nat.reduceSub, Nat.reduceMul, Int.reduceNeg, Nat.reduceLT, Int.reduceToNat, Nat.reduceLeDiff, Nat.sub_zero, hg])
      refine rdigit_c ?_
      cases hD : digitB s[j] with
      | true =>
        simp only [digN, hD, if_true] at hf
        (try simp (maxSteps := 1000000) (dsimp := false) (disch := (first | omega | (simp only [okR]; done) | (simp only [sizeR] <;> omega) | fail)) only [↓preR, postR, ↓w_stop, Nat.reduceEqDiff, Nat.reduceAdd, Nat.reduceSub, Nat.reduceMul, Int.reduceNeg, Nat.reduceLT, Int.reduceToNat, Nat.reduceLeDiff, Nat.sub_zero])
        exact hag _ _ _ ⟨j + 1, rfl, rfl, hlt, by omega, rfl⟩ (by omega)
      | false =>
        simp only [digN, hD, Bool.false_eq_true, if_false, Nat.add_zero] at hf
        (try simp (maxSteps := 1000000) (dsimp := false) (disch := (first | omega | (simp only [okR]; done) | (simp only [sizeR] <;> omega) | fail)) only [↓preR, postR, ↓w_stop, Nat.reduceEqDiff, Nat.reduceAdd, Nat.reduceSub, Nat.reduceMul, Int.reduceNeg, Nat.reduceLT, Int.reduceToNat, Nat.reduceLeDiff, Nat.sub_zero])
        rw [hf]
        exact tail4
    · rw [List.drop_of_length_le (by omega)] at hf
      simp only [digN, Nat.add_zero] at hf
      (try simp (maxSteps := 1000000) (dsimp := false) (disch := (first | omega | (simp only [okR]; done) | (simp only [sizeR] <;> omega) | fail)) only [↓preR, postR, ↓w_stop, Nat.reduceEqDiff, Nat.reduceAdd, Nat.reduceSub, Nat.reduceMul, Int.reduceNeg, Nat.reduceLT, Int.reduceToNat, Nat.reduceLeDiff, Nat.sub_zero])
      rw [hf]
      exact tail4
  clear hJ3
  have yes : signs4.contains c = true → k (.int .i64 1) σ := by
    intro hc
    have hd := dig_four hc
    have hz : digN (c :: r) = 0 := by simp [digN, hd]
    rw [hz] at hk
    simp only [Nat.lt_irrefl, if_false, hc, if_true] at hk
    simpa using hk
  by_cases a1 : c.toNat = 64
  · (try simp (maxSteps := 1000000) (dsimp := false) (disch := (first | omega | (simp only [okR]; done) | (simp only [sizeR] <;> omega) | fail)) only [↓preR, postR, ↓w_stop, Nat.reduceEqDiff, Nat.reduceAdd, Nat.reduceSub, Nat.reduceMul, Int.reduceNeg, Nat.reduceLT, Int.reduceToNat, Nat.reduceLeDiff, Nat.sub_zero, hlen, Option.getD_some])
    exact yes (by rw [h4]; simp [a1])
  by_cases a2 : c.toNat = 42
  · (try simp (maxSteps := 1000000) (dsimp := false) (disch := (first | omega | (simp only [okR]; done) | (simp only [sizeR] <;> omega) | fail)) only [↓preR, postR, ↓w_stop, Nat.reduceEqDiff, Nat.reduceAdd, Nat.reduceSub, Nat.reduceMul, Int.reduceNeg, Nat.reduceLT, Int.reduceToNat, Nat.reduceLeDiff, Nat.sub_zero, hlen, Option.getD_some])
    exact yes (by rw [h4]; simp [a2])
  by_cases a3 : c.toNat = 35
  · (try simp (maxSteps := 1000000) (dsimp := false) (disch := (first | omega | (simp only [okR]; done) | (simp only [sizeR] <;> omega) | fail)) only [↓preR, postR, ↓w_stop, Nat.reduceEqDiff, Nat.reduceAdd, Nat.reduceSub, Nat.reduceMul, Int.reduceNeg, Nat.reduceLT, Int.reduceToNat, Nat.reduceLeDiff, Nat.sub_zero, hlen, Option.getD_some])
    exact yes (by rw [h4]; simp [a3])
  by_cases a4 : c.toNat = 63
  · (try simp (maxSteps := 1000000) (dsimp := false) (disch := (first | omega | (simp only [okR]; done) | (simp only [sizeR] <;> omega) | fail)) only [↓preR, postR, ↓w_stop, Nat.reduceEqDiff, Nat.reduceAdd, Nat.reduceSub, Nat.reduceMul, Int.reduceNeg, Nat.reduceLT, Int.reduceToNat, Nat.reduceLeDiff, Nat.sub_zero, hlen, Option.getD_some])
    exact yes (by rw [h4]; simp [a4])
  (try simp (maxSteps := 1000000) (dsimp := false) (disch := (first | omega | (simp only [okR]; done) | (simp only [sizeR] <;> omega) | fail)) only [↓preR, postR, ↓w_stop, Nat.reduceEqDiff, Nat.reduceAdd, Nat.reduceSub, Nat.reduceMul, Int.reduceNeg, Nat.reduceLT, Int.reduceToNat, Nat.reduceLeDiff, Nat.sub_zero, hlen, Option.getD_some])
  exact tail (by rw [h4]; simp [a1, a2, a3, a4])
theorem qnamed_c (hs : s.length ≤ 1000000) (hk : k (.int .i64 (namedN s)) σ) : kCall Tryz.prog 28 [.string (bs s)] σ k := by
  refine f28 ?_
  unfold namedN at hk
  (try simp (maxSteps := 1000000) (dsimp := false) (disch := (first | omega | (simp only [okR]; done) | (simp only [sizeR] <;> omega) | fail)) only [↓preR, postR, ↓w_stop, Nat.reduceEqDiff, Nat.reduceAdd, Nat.reduceSub, Nat.reduceMul, Int.reduceNeg, Nat.reduceLT, Int.reduceToNat, Nat.reduceLeDiff, Nat.sub_zero, F28])
  refine join_now ?_
  cases s with
  | nil =>
    (try simp (maxSteps := 1000000) (dsimp := false) (disch := (first | omega | (simp only [okR]; done) | (simp only [sizeR] <;> omega) | fail)) only [↓preR, postR, ↓w_stop, Nat.reduceEqDiff, Nat.reduceAdd, Nat.reduceSub, Nat.reduceMul, Int.reduceNeg, Nat.reduceLT, Int.reduceToNat, Nat.reduceLeDiff, Nat.sub_zero])
    exact hk
  | cons c r =>
  have hne : (c :: r = []) = False := by simp
  have hlen : (c :: r).length = r.length + 1 := rfl
  (try simp (maxSteps := 1000000) (dsimp := false) (disch := (first | omega | (simp only [okR]; done) | (simp only [sizeR] <;> omega) | fail)) only [↓preR, postR, ↓w_stop, Nat.reduceEqDiff, Nat.reduceAdd, Nat.reduceSub, Nat.reduceMul, Int.reduceNeg, Nat.reduceLT, Int.reduceToNat, Nat.reduceLeDiff, Nat.sub_zero, hne])
  refine join_now ?_
  refine rfront_c (by unfold maxLen; omega) ?_
  by_cases h0 : 0 < frontF 0 (c :: r)
  · rw [if_pos h0] at hk
    (try simp (maxSteps := 1000000) (dsimp := false) (disch := (first | omega | (simp only [okR]; done) | (simp only [sizeR] <;> omega) | fail)) only [↓preR, postR, ↓w_stop, Nat.reduceEqDiff, Nat.reduceAdd, Nat.reduceSub, Nat.reduceMul, Int.reduceNeg, Nat.reduceLT, Int.reduceToNat, Nat.reduceLeDiff, Nat.sub_zero])
    refine rfront_c (by unfold maxLen; omega) ?_
    (try simp (maxSteps := 1000000) (dsimp := false) (disch := (first | omega | (simp only [okR]; done) | (simp only [sizeR] <;> omega) | fail)) only [↓preR, postR, ↓w_stop, Nat.reduceEqDiff, Nat.reduceAdd, Nat.reduceSub, Nat.reduceMul, Int.reduceNeg, Nat.reduceLT, Int.reduceToNat, Nat.reduceLeDiff, Nat.sub_zero])
    exact hk
  rw [if_neg h0] at hk
  replace hk : k (.int .i64 ((if (digitB c || signs4.contains c) = true then 1 else 0 : Nat) : Int)) σ := hk
  rw [four_has] at hk
  (try simp (maxSteps := 1000000) (dsimp := false) (disch := (first | omega | (simp only [okR]; done) | (simp only [sizeR] <;> omega) | fail)) only [↓preR, postR, ↓w_stop, Nat.reduceEqDiff, Nat.reduceAdd, Nat.reduceSub, Nat.reduceMul, Int.reduceNeg, Nat.reduceLT, Int.reduceToNat, Nat.reduceLeDiff, Nat.sub_zero])
  refine join_now ?_
  (try simp (maxSteps := 1000000) (dsimp := false) (disch := (first | omega | (simp only [okR]; done) | (simp only [sizeR] <;> omega) | fail)) only [↓preR, postR, ↓w_stop, Nat.reduceEqDiff, Nat.reduceAdd, Nat.reduceSub, Nat.reduceMul, Int.reduceNeg, Nat.reduceLT, Int.reduceToNat, Nat.reduceLeDiff, Nat.sub_zero, hlen, Option.getD_some])
  refine rdigit_c ?_
  cases hd : digitB c with
  | true =>
    simp only [hd, Bool.true_or, if_true] at hk
    (try simp (maxSteps := 1000000) (dsimp := false) (disch := (first | omega | (simp only [okR]; done) | (simp only [sizeR] <;> omega) | fail)) only [↓preR, postR, ↓w_stop, Nat.reduceEqDiff, Nat.reduceAdd, Nat.reduceSub, Nat.reduceMul, Int.reduceNeg, Nat.reduceLT, Int.reduceToNat, Nat.reduceLeDiff, Nat.sub_zero])
    exact hk
  | false =>
    simp only [hd, Bool.false_or] at hk
    by_cases a1 : c.toNat = 64
    · simp [a1] at hk
      (try simp (maxSteps := 1000000) (dsimp := false) (disch := (first | omega | (simp only [okR]; done) | (simp only [sizeR] <;> omega) | fail)) only [↓preR, postR, ↓w_stop, Nat.reduceEqDiff, Nat.reduceAdd, Nat.reduceSub, Nat.reduceMul, Int.reduceNeg, Nat.reduceLT, Int.reduceToNat, Nat.reduceLeDiff, Nat.sub_zero, hlen, Option.getD_some])
      exact hk
    by_cases a2 : c.toNat = 42
    · simp [a2] at hk
      (try simp (maxSteps := 1000000) (dsimp := false) (disch := (first | omega | (simp only [okR]; done) | (simp only [sizeR] <;> omega) | fail)) only [↓preR, postR, ↓w_stop, Nat.reduceEqDiff, Nat.reduceAdd, Nat.reduceSub, Nat.reduceMul, Int.reduceNeg, Nat.reduceLT, Int.reduceToNat, Nat.reduceLeDiff, Nat.sub_zero, hlen, Option.getD_some])
      exact hk
    by_cases a3 : c.toNat = 35
    · simp [a3] at hk
      (try simp (maxSteps := 1000000) (dsimp := false) (disch := (first | omega | (simp only [okR]; done) | (simp only [sizeR] <;> omega) | fail)) only [↓preR, postR, ↓w_stop, Nat.reduceEqDiff, Nat.reduceAdd, Nat.reduceSub, Nat.reduceMul, Int.reduceNeg, Nat.reduceLT, Int.reduceToNat, Nat.reduceLeDiff, Nat.sub_zero, hlen, Option.getD_some])
      exact hk
    by_cases a4 : c.toNat = 63
    · simp [a4] at hk
      (try simp (maxSteps := 1000000) (dsimp := false) (disch := (first | omega | (simp only [okR]; done) | (simp only [sizeR] <;> omega) | fail)) only [↓preR, postR, ↓w_stop, Nat.reduceEqDiff, Nat.reduceAdd, Nat.reduceSub, Nat.reduceMul, Int.reduceNeg, Nat.reduceLT, Int.reduceToNat, Nat.reduceLeDiff, Nat.sub_zero, hlen, Option.getD_some])
      exact hk
    simp [a1, a2, a3, a4] at hk
    (try simp (maxSteps := 1000000) (dsimp := false) (disch := (first | omega | (simp only [okR]; done) | (simp only [sizeR] <;> omega) | fail)) only [↓preR, postR, ↓w_stop, Nat.reduceEqDiff, Nat.reduceAdd, Nat.reduceSub, Nat.reduceMul, Int.reduceNeg, Nat.reduceLT, Int.reduceToNat, Nat.reduceLeDiff, Nat.sub_zero, hlen, Option.getD_some])
    exact hk
end
end Go.Proofs.YtmgdkoidgoihfaaGreatDoor

/- Words, as the document has them: a run, a brace. Conditions: as each theorem says. -/
namespace Go.Proofs.YtmgdkoidgoihfaaGreatDoor
open E Go.Lib
open Go.RowKit
set_option linter.unusedVariables false
set_option linter.unusedSimpArgs false
set_option maxHeartbeats 1000000
set_option maxRecDepth 20000

def op0 (x : UInt8) : Int := if x = 45 then 2 else if x = 61 then 3 else if x = 63 then 4 else if x = 43 then 5 else if x = 35 then 6 else if x = 37 then 8 else 0
def twB (x : UInt8) (r : Str) : Bool := match r with | y :: _ => decide (y.toNat = x.toNat) | [] => false
theorem op_of (x : UInt8) (r : Str) : opOf (x :: r) = if op0 x = 0 then none else if 6 ≤ op0 x ∧ twB x r = true then some ([x, x], op0 x + 1) else some ([x], op0 x) := by
  have hy : ∀ y z : UInt8, (y.toNat = z.toNat) ↔ y = z := fun y z => UInt8.toNat_inj
  unfold opOf ops8
  by_cases h1 : x = 45
  · subst h1; simp [op0, isPre, List.find?]
  by_cases h2 : x = 61
  · subst h2; simp [op0, isPre, List.find?]
  by_cases h3 : x = 63
  · subst h3; simp [op0, isPre, List.find?]
  by_cases h4 : x = 43
  · subst h4; simp [op0, isPre, List.find?]
  by_cases h5 : x = 35
  · subst h5
    cases r with
    | nil => simp [op0, isPre, List.find?, twB]
    | cons y r =>
      by_cases hy2 : y = 35
      · subst hy2; simp [op0, isPre, List.find?, twB]
      · have : ¬ y.toNat = 35 := fun h => hy2 ((hy y 35).1 h)
        simp [op0, isPre, List.find?, twB, hy2, this]
  by_cases h6 : x = 37
  · subst h6
    cases r with
    | nil => simp [op0, isPre, List.find?, twB]
    | cons y r =>
      by_cases hy2 : y = 37
      · subst hy2; simp [op0, isPre, List.find?, twB]
      · have : ¬ y.toNat = 37 := fun h => hy2 ((hy y 37).1 h)
        simp [op0, isPre, List.find?, twB, hy2, this]
  · simp [op0, isPre, List.find?, h1, h2, h3, h4, h5, h6]
theorem op0_rng (x : UInt8) : 0 ≤ op0 x ∧ op0 x ≤ 8 ∧ ¬ op0 x = 1 ∧ ¬ op0 x = 7 := by
  unfold op0
  (repeat' split) <;> decide
theorem op0_four (x : UInt8) : ([45, 61, 63, 43] : Str).contains x = decide (2 ≤ op0 x ∧ op0 x ≤ 5) := by
  by_cases h1 : x = 45
  · subst h1; rfl
  by_cases h2 : x = 61
  · subst h2; rfl
  by_cases h3 : x = 63
  · subst h3; rfl
  by_cases h4 : x = 43
  · subst h4; rfl
  have e : ([45, 61, 63, 43] : Str).contains x = false := by simp [h1, h2, h3, h4]
  rw [e]
  unfold op0
  rw [if_neg h1, if_neg h2, if_neg h3, if_neg h4]
  symm
  split
  · decide
  split <;> decide
/-- What stands behind a brace's name. -/
def brT (rd : Str → Nat → WR) (rest : Str) (way : Nat) (out : List Pt) (text : Str) (wi : Bool) : WR :=
  match opOf (if colonB rest = true then rest.drop 1 else rest) with
  | none => .bad 10
  | some (o, op) =>
    match rd ((if colonB rest = true then rest.drop 1 else rest).drop o.length) (nextW way op) with
    | .bad e => .bad e
    | .ok w => .ok (addP out (.mk 2 text wi op (colonB rest) w))
def brF (rd : Str → Nat → WR) (inn : Str) (way : Nat) (out : List Pt) (text : Str) (wi cb : Bool) (lg : Nat) (op : Int) : WR := match rd (inn.drop lg) (nextW way op) with
  | .bad e => .bad e
  | .ok w => .ok (addP out (.mk 2 text wi op cb w))
theorem op_58 (r : Str) : opOf (58 :: r) = none := by rw [op_of]; rfl
theorem br_nil (rd : Str → Nat → WR) (way : Nat) (out : List Pt) (text : Str) (wi : Bool) : brT rd [58] way out text wi = .bad 10 := rfl
theorem br_eq (rd : Str → Nat → WR) (way : Nat) (out : List Pt) (text : Str) (wi cb : Bool) (rest r : Str) (x : UInt8) (h : (cb = true ∧ rest = 58 :: x :: r) ∨ (cb = false ∧ rest = x :: r ∧ ¬ x = 58)) :
    brT rd rest way out text wi = if op0 x = 0 ∨ (cb = true ∧ 6 ≤ op0 x) then .bad 10 else if 6 ≤ op0 x ∧ twB x r = true then brF rd (x :: r) way out text wi cb 2 (op0 x + 1) else brF rd (x :: r) way out text wi cb 1 (op0 x) := by
  have hr := op0_rng x
  rcases h with ⟨rfl, rfl⟩ | ⟨rfl, rfl, hx⟩
  · have hc : colonB (58 :: x :: r) = decide (2 ≤ op0 x ∧ op0 x ≤ 5) := by
      rw [← op0_four]; rfl
    unfold brT
    rw [hc]
    by_cases h1 : 2 ≤ op0 x ∧ op0 x ≤ 5
    · simp only [h1, and_self, decide_true, if_true, List.drop_succ_cons, List.drop_zero]
      rw [op_of, if_neg (by omega), if_neg (fun h => by omega), if_neg (by omega), if_neg (fun h => by omega)]
      rfl
    · have h2 : (decide (2 ≤ op0 x ∧ op0 x ≤ 5)) = false := decide_eq_false h1
      rw [h2]
      simp only [Bool.false_eq_true, if_false]
      have h3 : op0 x = 0 ∨ 6 ≤ op0 x := by omega
      rw [op_58, if_pos (h3.imp id fun h => ⟨trivial, h⟩)]
  · have hc : colonB (x :: r) = false := by
      cases r with
      | nil => rfl
      | cons y r => simp [colonB, hx]
    unfold brT
    rw [hc]
    simp only [Bool.false_eq_true, if_false, false_and, or_false]
    rw [op_of]
    by_cases h1 : op0 x = 0
    · rw [if_pos h1, if_pos h1]
    · rw [if_neg h1, if_neg h1]
      by_cases h2 : 6 ≤ op0 x ∧ twB x r = true
      · rw [if_pos h2, if_pos h2]; rfl
      · rw [if_neg h2, if_neg h2]; rfl
def QRdC (f : Nat) : Prop := ∀ {σ : AS} {X : Ce} {R : List Ck} {k : Value → AS → Prop} {s : Str} {way : Nat}, s.length < f → s.length ≤ 100000 → way ≤ 5 → Hs σ X R → WK X R k (rdP f s way []) → kCall Tryz.prog 19 [.string (bs s), .int .i64 way] σ k
section
variable {σ σ' : AS} {X : Ce} {R : List Ck} {k : Value → AS → Prop} {p n i f : Nat} {e : Int} {out : List Pt} {s t : Str} {c : UInt8} {way : Nat} {q : Bool}
theorem qrun_c (hf : FitW out n) (hn : n + t.length ≤ 900000) (ht : 2 ≤ t.length) (h : Hs σ X (Rdr p out e :: R)) (hk : ∀ w σ', Hs σ' X (Rdr p (runP t q out) e :: R) → k w σ') :
    kCall Tryz.prog 55 [pv p, .string (bs (mid t)), .bool q] σ k := by
  refine f55 ?_
  have hml := mid_len t
  unfold runP at hk
  generalize mid t = m at *
  (try simp (maxSteps := 1000000) (dsimp := false) (disch := (first | omega | (simp only [okR]; done) | (simp only [sizeR] <;> omega) | fail)) only [↓preR, postR, ↓w_stop, Nat.reduceEqDiff, Nat.reduceAdd, Nat.reduceSub, Nat.reduceMul, Int.reduceNeg, Nat.reduceLT, Int.reduceToNat, Nat.reduceLeDiff, Nat.sub_zero, F55])
  refine join_by fun J hJ => ?_
  have tail : (∀ w σ', Hs σ' X (Rdr p (addP out (.mk 3 m q 0 false [])) e :: R) → k w σ') → ∀ s1, Hs s1 X (Rdr p out e :: R) → J [] s1 := by
    intro hk s1 h1
    refine hJ _ _ ?_
    clear hJ
    (try simp (maxSteps := 1000000) (dsimp := false) (disch := (first | omega | (simp only [okR]; done) | (simp only [sizeR] <;> omega) | fail)) only [↓preR, postR, ↓w_stop, Nat.reduceEqDiff, Nat.reduceAdd, Nat.reduceSub, Nat.reduceMul, Int.reduceNeg, Nat.reduceLT, Int.reduceToNat, Nat.reduceLeDiff, Nat.sub_zero])
    exact qadd_c (x := .mk 3 m q 0 false []) (v := .slice none 0 0) (leafOk (by unfold maxLen; omega) (by omega) (by omega)) (by have := hf.1; omega) (by have := hf.2; show txt out + m.length ≤ _; omega) h1 fun w σ1 h1 => hk _ _ h1
  clear hJ
  have i40 := fun c => u8_eq (c := c) (x := 40) (n := 40) rfl
  cases m with
  | nil =>
    have hT : (([] : Str) = []) = True := eq_true rfl
    have hk2 : ∀ w σ', Hs σ' X (Rdr p (addP out (.mk 3 [] q 0 false [])) e :: R) → k w σ' := by
      simpa [isPre] using hk
    (try simp (maxSteps := 1000000) (dsimp := false) (disch := (first | omega | (simp only [okR]; done) | (simp only [sizeR] <;> omega) | fail)) only [↓preR, postR, ↓w_stop, Nat.reduceEqDiff, Nat.reduceAdd, Nat.reduceSub, Nat.reduceMul, Int.reduceNeg, Nat.reduceLT, Int.reduceToNat, Nat.reduceLeDiff, Nat.sub_zero])
    exact tail hk2 _ h
  | cons c r =>
  have hne : (c :: r = []) = False := by simp
  have hlen : (c :: r).length = r.length + 1 := rfl
  by_cases h40 : c.toNat = 40
  rotate_left
  · have hk2 : ∀ w σ', Hs σ' X (Rdr p (addP out (.mk 3 (c :: r) q 0 false [])) e :: R) → k w σ' := by
      have : isPre [40] (c :: r) = false := by simp [isPre, i40, h40]
      rw [this] at hk
      simpa using hk
    (try simp (maxSteps := 1000000) (dsimp := false) (disch := (first | omega | (simp only [okR]; done) | (simp only [sizeR] <;> omega) | fail)) only [↓preR, postR, ↓w_stop, Nat.reduceEqDiff, Nat.reduceAdd, Nat.reduceSub, Nat.reduceMul, Int.reduceNeg, Nat.reduceLT, Int.reduceToNat, Nat.reduceLeDiff, Nat.sub_zero, hne, hlen, Option.getD_some])
    exact tail hk2 _ h
  have hc := (i40 c).2 h40
  subst hc
  have hp : isPre [40] (40 :: r) = true := by simp [isPre]
  rw [hp] at hk
  simp only [true_and] at hk
  have u40 : (40 : UInt8).toNat = 40 := rfl
  (try simp (maxSteps := 1000000) (dsimp := false) (disch := (first | omega | (simp only [okR]; done) | (simp only [sizeR] <;> omega) | fail)) only [↓preR, postR, ↓w_stop, Nat.reduceEqDiff, Nat.reduceAdd, Nat.reduceSub, Nat.reduceMul, Int.reduceNeg, Nat.reduceLT, Int.reduceToNat, Nat.reduceLeDiff, Nat.sub_zero, hne, hlen, Option.getD_some])
  refine rpiece_c (s := 36 :: 40 :: r) (i := 0) (q := false) (by simp only [List.length_cons] at *; omega) (by unfold inI64; omega) h fun s1 h1 => ?_
  have hP : pieceP (36 :: 40 :: r) 0 false = match go FU none (36 :: 40 :: r) false true false 0 with
    | .ok n => ((n : Int), 0, 0)
    | .bad e b => (0, (b : Int), e)
    | .cut => (0, 0, 0) := by
    unfold pieceP
    rw [if_neg (by simp only [List.length_cons]; omega)]
    simp only [Int.toNat_zero, List.drop_zero, Bool.not_false, Int.zero_add]
    rfl
  rw [hP]
  cases hg : go FU none (36 :: 40 :: r) false true false 0 with
  | ok m =>
    rw [hg] at hk
    by_cases hmm : m = (40 :: r).length + 1
    · have hk2 : ∀ w σ', Hs σ' X (Rdr p (addP out (.mk 4 (mid (40 :: r)) q 0 false [])) e :: R) → k w σ' := by
        have : okN (.ok m) = some ((40 :: r).length + 1) := by rw [hmm]; rfl
        simp only [this, if_true] at hk
        exact hk
      have h2 : 1 ≤ r.length := by
        have h3 : go FU none (36 :: 40 :: r) false true false 0 = shut 1 2 0 (go 2099999 (some 41) r false true true (0 + 1)) := by
          show go (2099999 + 1) none (36 :: 40 :: r) false true false 0 = _
          rw [go_n]; simp
        rw [h3] at hg
        obtain ⟨i, hi, he⟩ := shut_ok hg
        have := go_ok hi
        simp only [List.length_cons] at hmm
        omega
      have hm2 : r.take (r.length + 1 - 1 - 1) = mid (40 :: r) := rfl
      have hmml := mid_len (40 :: r)
      rw [hlen] at hmml hmm
      (try simp (maxSteps := 1000000) (dsimp := false) (disch := (first | omega | (simp only [okR]; done) | (simp only [sizeR] <;> omega) | fail)) only [↓preR, postR, ↓w_stop, Nat.reduceEqDiff, Nat.reduceAdd, Nat.reduceSub, Nat.reduceMul, Int.reduceNeg, Nat.reduceLT, Int.reduceToNat, Nat.reduceLeDiff, Nat.sub_zero, hlen, hm2])
      exact qadd_c (x := .mk 4 (mid (40 :: r)) q 0 false []) (v := .slice none 0 0) (leafOk (by unfold maxLen; omega) (by omega) (by omega)) (by have := hf.1; omega) (by have := hf.2; show txt out + (mid (40 :: r)).length ≤ _; omega) h1 fun w σ1 h1 => hk2 _ _ h1
    · have hk2 : ∀ w σ', Hs σ' X (Rdr p (addP out (.mk 3 (40 :: r) q 0 false [])) e :: R) → k w σ' := by
        have : ¬ okN (.ok m) = some ((40 :: r).length + 1) := by simp only [okN, Option.some.injEq]; exact hmm
        simp only [this, if_false] at hk
        exact hk
      rw [hlen] at hmm
      (try simp (maxSteps := 1000000) (dsimp := false) (disch := (first | omega | (simp only [okR]; done) | (simp only [sizeR] <;> omega) | fail)) only [↓preR, postR, ↓w_stop, Nat.reduceEqDiff, Nat.reduceAdd, Nat.reduceSub, Nat.reduceMul, Int.reduceNeg, Nat.reduceLT, Int.reduceToNat, Nat.reduceLeDiff, Nat.sub_zero, hlen])
      exact tail hk2 _ h1
  | bad e' b =>
    rw [hg] at hk
    have he : ¬ e' = 0 := by have := (go_bad hg).2; omega
    have hk2 : ∀ w σ', Hs σ' X (Rdr p (addP out (.mk 3 (40 :: r) q 0 false [])) e :: R) → k w σ' := by
      simp only [okN, reduceCtorEq, if_false] at hk
      exact hk
    (try simp (maxSteps := 1000000) (dsimp := false) (disch := (first | omega | (simp only [okR]; done) | (simp only [sizeR] <;> omega) | fail)) only [↓preR, postR, ↓w_stop, Nat.reduceEqDiff, Nat.reduceAdd, Nat.reduceSub, Nat.reduceMul, Int.reduceNeg, Nat.reduceLT, Int.reduceToNat, Nat.reduceLeDiff, Nat.sub_zero, he])
    exact tail hk2 _ h1
  | cut => exact (go_cut (by simp) hg).elim
theorem qbrace_c (ih : QRdC f) (hs : s.length ≤ 100000) (hsf : s.length < f) (hw : way ≤ 5) (hf : FitW out n) (hn : n ≤ 800000) (h : Hs σ X (Rdr p out 0 :: R))
    (hk : TK X R p k (braceP (fun s w => rdP f s w []) s way out)) : kCall Tryz.prog 54 [pv p, .string (bs s), .int .i64 way] σ k := by
  refine f54 ?_
  have hbr : braceP (fun s w => rdP f s w []) s way out = if isPre [35] s = true ∧ 1 < s.length ∧ paramN (s.drop 1) = s.length - 1 then .ok (addP out (varP (s.drop 1) way 1 false []))
      else if paramN s = 0 then .bad 10
      else if s.drop (paramN s) = [] then .ok (addP out (varP (s.take (paramN s)) way 0 false []))
      else brT (fun s w => rdP f s w []) (s.drop (paramN s)) way out (s.take (paramN s)) (withinB way) := rfl
  rw [hbr] at hk
  have hpl := param_le s
  (try simp (maxSteps := 1000000) (dsimp := false) (disch := (first | omega | (simp only [okR]; done) | (simp only [sizeR] <;> omega) | fail)) only [↓preR, postR, ↓w_stop, Nat.reduceEqDiff, Nat.reduceAdd, Nat.reduceSub, Nat.reduceMul, Int.reduceNeg, Nat.reduceLT, Int.reduceToNat, Nat.reduceLeDiff, Nat.sub_zero, F54])
  refine qall_c hw ?_
  have hvar : ∀ s op c w, varP s way op c w = .mk 2 s (withinB way) op c w := fun s op c w => rfl
  simp only [hvar] at hk
  generalize hwi : withinB way = wi at *
  have h1 := h.new (cs := [.int .i64 0, .string (bs []), .bool false, .int .i64 0, .bool false, .slice none 0 0])
  have h2 := h1.put (cs' := [.int .i64 2, .string (bs []), .bool wi, .int .i64 0, .bool false, .slice none 0 0])
  (try simp (maxSteps := 1000000) (dsimp := false) (disch := (first | omega | (simp only [okR]; done) | (simp only [sizeR] <;> omega) | fail)) only [↓preR, postR, ↓w_stop, Nat.reduceEqDiff, Nat.reduceAdd, Nat.reduceSub, Nat.reduceMul, Int.reduceNeg, Nat.reduceLT, Int.reduceToNat, Nat.reduceLeDiff, Nat.sub_zero, h1.obj])
  generalize hq0 : σ.n = b at h2 ⊢
  generalize AS.put _ _ _ = s1 at h2 ⊢
  clear h1 h hq0
  refine join_by fun J1 hJ1 => ?_
  have tail1 : ¬ (isPre [35] s = true ∧ 1 < s.length ∧ paramN (s.drop 1) = s.length - 1) → J1 [] s1 := by
    intro hc
    rw [if_neg hc] at hk
    refine hJ1 _ _ ?_
    clear hJ1
    (try simp (maxSteps := 1000000) (dsimp := false) (disch := (first | omega | (simp only [okR]; done) | (simp only [sizeR] <;> omega) | fail)) only [↓preR, postR, ↓w_stop, Nat.reduceEqDiff, Nat.reduceAdd, Nat.reduceSub, Nat.reduceMul, Int.reduceNeg, Nat.reduceLT, Int.reduceToNat, Nat.reduceLeDiff, Nat.sub_zero])
    refine qparam_c (by omega) ?_
    (try simp (maxSteps := 1000000) (dsimp := false) (disch := (first | omega | (simp only [okR]; done) | (simp only [sizeR] <;> omega) | fail)) only [↓preR, postR, ↓w_stop, Nat.reduceEqDiff, Nat.reduceAdd, Nat.reduceSub, Nat.reduceMul, Int.reduceNeg, Nat.reduceLT, Int.reduceToNat, Nat.reduceLeDiff, Nat.sub_zero])
    refine join_now ?_
    by_cases h0 : paramN s = 0
    · rw [if_pos h0] at hk
      obtain ⟨u, ep, hlt, ⟨ua, un, uc, rfl⟩, hset⟩ := rdr_set h2.swap
      (try simp (maxSteps := 1000000) (dsimp := false) (disch := (first | omega | (simp only [okR]; done) | (simp only [sizeR] <;> omega) | fail)) only [↓preR, postR, ↓w_stop, Nat.reduceEqDiff, Nat.reduceAdd, Nat.reduceSub, Nat.reduceMul, Int.reduceNeg, Nat.reduceLT, Int.reduceToNat, Nat.reduceLeDiff, Nat.sub_zero, ep])
      exact hk X _ _ out (Ce.le_refl _) ((hset 10).swap.drop)
    rw [if_neg h0] at hk
    have ht0 : (s.drop 0).take (paramN s - 0) = s.take (paramN s) := by simp
    have hd0 : (s.drop (paramN s)).take (s.length - paramN s) = s.drop (paramN s) := List.take_of_length_le (by simp)
    have hdl : (s.drop (paramN s)).length = s.length - paramN s := List.length_drop
    have htl : (s.take (paramN s)).length ≤ s.length := by rw [List.length_take]; omega
    have h3 := h2.put (cs' := [.int .i64 2, .string (bs (s.take (paramN s))), .bool wi, .int .i64 0, .bool false, .slice none 0 0])
    generalize hpn : paramN s = pn at *
    (try simp (maxSteps := 1000000) (dsimp := false) (disch := (first | omega | (simp only [okR]; done) | (simp only [sizeR] <;> omega) | fail)) only [↓preR, postR, ↓w_stop, Nat.reduceEqDiff, Nat.reduceAdd, Nat.reduceSub, Nat.reduceMul, Int.reduceNeg, Nat.reduceLT, Int.reduceToNat, Nat.reduceLeDiff, Nat.sub_zero, h2.obj, ht0, hd0])
    generalize hrest : s.drop pn = rest at *
    generalize htext : s.take pn = text at *
    generalize AS.put _ _ _ = s2 at h3 ⊢
    clear h2
    refine join_now ?_
    have hrlt : rest.length < s.length := by
      rw [← hrest, List.length_drop]
      omega
    by_cases hr0 : rest = []
    · rw [if_pos hr0] at hk
      have hT : (rest = []) = True := eq_true hr0
      (try simp (maxSteps := 1000000) (dsimp := false) (disch := (first | omega | (simp only [okR]; done) | (simp only [sizeR] <;> omega) | fail)) only [↓preR, postR, ↓w_stop, Nat.reduceEqDiff, Nat.reduceAdd, Nat.reduceSub, Nat.reduceMul, Int.reduceNeg, Nat.reduceLT, Int.reduceToNat, Nat.reduceLeDiff, Nat.sub_zero, hT, h3.obj])
      exact qadd_c (x := .mk 2 text wi 0 false []) (v := .slice none 0 0) (leafOk (by unfold maxLen; omega) (by omega) (by omega)) (by have := hf.1; omega) (by have := hf.2; show txt out + text.length ≤ _; omega) h3.swap fun w s3 h4 => hk X _ _ (Ce.le_refl _) h4.swap.drop
    rw [if_neg hr0] at hk
    have hF : (rest = []) = False := eq_false hr0
    (try simp (maxSteps := 1000000) (dsimp := false) (disch := (first | omega | (simp only [okR]; done) | (simp only [sizeR] <;> omega) | fail)) only [↓preR, postR, ↓w_stop, Nat.reduceEqDiff, Nat.reduceAdd, Nat.reduceSub, Nat.reduceMul, Int.reduceNeg, Nat.reduceLT, Int.reduceToNat, Nat.reduceLeDiff, Nat.sub_zero, hF])
    refine join_by fun J4 hJ4 => ?_
    have tail4 : ∀ (cb : Bool) (inn : Str) (s3 : AS), ((cb = true ∧ rest = 58 :: inn) ∨ (cb = false ∧ rest = inn ∧ ¬ inn.head? = some 58)) → Hs s3 X (Cel b [.int .i64 2, .string (bs text), .bool wi, .int .i64 0, .bool cb, .slice none 0 0] :: Rdr p out 0 :: R) → J4 [.string (bs inn)] s3 := by
      intro cb inn s3 hrel h4
      refine hJ4 _ _ ?_
      clear hJ4
      have hbad : TK X R p k (.bad 10) → ∀ (o : Int) s5, Hs s5 X (Cel b [.int .i64 2, .string (bs text), .bool wi, .int .i64 o, .bool cb, .slice none 0 0] :: Rdr p out 0 :: R) → ∃ u, s5.m p = some (.cells [u, .int .i64 0]) ∧ k undef (s5.put p (.cells [u, .int .i64 10])) := by
        intro hk o s5 h6
        obtain ⟨u, ep, hlt, ⟨ua, un, uc, rfl⟩, hset⟩ := rdr_set h6.swap
        exact ⟨_, ep, hk X _ _ out (Ce.le_refl _) ((hset 10).swap.drop)⟩
      cases inn with
      | nil =>
        have hrn : rest = [58] := by
          rcases hrel with ⟨_, h⟩ | ⟨_, h, _⟩
          · exact h
          · exact (hr0 h).elim
        rw [hrn, br_nil] at hk
        (try simp (maxSteps := 1000000) (dsimp := false) (disch := (first | omega | (simp only [okR]; done) | (simp only [sizeR] <;> omega) | fail)) only [↓preR, postR, ↓w_stop, Nat.reduceEqDiff, Nat.reduceAdd, Nat.reduceSub, Nat.reduceMul, Int.reduceNeg, Nat.reduceLT, Int.reduceToNat, Nat.reduceLeDiff, Nat.sub_zero])
        refine join_now ?_
        (try simp (maxSteps := 1000000) (dsimp := false) (disch := (first | omega | (simp only [okR]; done) | (simp only [sizeR] <;> omega) | fail)) only [↓preR, postR, ↓w_stop, Nat.reduceEqDiff, Nat.reduceAdd, Nat.reduceSub, Nat.reduceMul, Int.reduceNeg, Nat.reduceLT, Int.reduceToNat, Nat.reduceLeDiff, Nat.sub_zero])
        refine join_now ?_
        (try simp (maxSteps := 1000000) (dsimp := false) (disch := (first | omega | (simp only [okR]; done) | (simp only [sizeR] <;> omega) | fail)) only [↓preR, postR, ↓w_stop, Nat.reduceEqDiff, Nat.reduceAdd, Nat.reduceSub, Nat.reduceMul, Int.reduceNeg, Nat.reduceLT, Int.reduceToNat, Nat.reduceLeDiff, Nat.sub_zero])
        refine join_now ?_
        obtain ⟨u, ep, hkk⟩ := hbad hk 0 s3 h4
        (try simp (maxSteps := 1000000) (dsimp := false) (disch := (first | omega | (simp only [okR]; done) | (simp only [sizeR] <;> omega) | fail)) only [↓preR, postR, ↓w_stop, Nat.reduceEqDiff, Nat.reduceAdd, Nat.reduceSub, Nat.reduceMul, Int.reduceNeg, Nat.reduceLT, Int.reduceToNat, Nat.reduceLeDiff, Nat.sub_zero, h4.obj, ep])
        exact hkk
      | cons x r =>
        have hbe := br_eq (fun s w => rdP f s w []) way out text wi cb rest r x (by
          rcases hrel with ⟨h1, h2⟩ | ⟨h1, h2, h3⟩
          · exact .inl ⟨h1, h2⟩
          · exact .inr ⟨h1, h2, fun hx => h3 (by rw [hx]; rfl)⟩)
        rw [hbe] at hk
        have hrl : (x :: r).length ≤ rest.length := by
          rcases hrel with ⟨_, h⟩ | ⟨_, h, _⟩ <;> rw [h] <;> simp
        have hlen : (x :: r).length = r.length + 1 := rfl
        have hne : (x :: r = []) = False := by simp
        have hop := op0_rng x
        (try simp (maxSteps := 1000000) (dsimp := false) (disch := (first | omega | (simp only [okR]; done) | (simp only [sizeR] <;> omega) | fail)) only [↓preR, postR, ↓w_stop, Nat.reduceEqDiff, Nat.reduceAdd, Nat.reduceSub, Nat.reduceMul, Int.reduceNeg, Nat.reduceLT, Int.reduceToNat, Nat.reduceLeDiff, Nat.sub_zero])
        refine join_now ?_
        (try simp (maxSteps := 1000000) (dsimp := false) (disch := (first | omega | (simp only [okR]; done) | (simp only [sizeR] <;> omega) | fail)) only [↓preR, postR, ↓w_stop, Nat.reduceEqDiff, Nat.reduceAdd, Nat.reduceSub, Nat.reduceMul, Int.reduceNeg, Nat.reduceLT, Int.reduceToNat, Nat.reduceLeDiff, Nat.sub_zero, hne, Option.getD_some])
        refine grd_and (b := twB x r) (fun ha k' hk' => ?_) ?_
        · cases r with
          | nil => simp at ha
          | cons y r =>
            have e : twB x (y :: r) = decide (y.toNat = x.toNat) := rfl
            have hl2 : (x :: y :: r).length = r.length + 2 := rfl
            rw [e] at hk'
            by_cases hy : y.toNat = x.toNat
            · rw [decide_eq_true hy] at hk'
              (try simp (maxSteps := 1000000) (dsimp := false) (disch := (first | omega | (simp only [okR]; done) | (simp only [sizeR] <;> omega) | fail)) only [↓preR, postR, ↓w_stop, Nat.reduceEqDiff, Nat.reduceAdd, Nat.reduceSub, Nat.reduceMul, Int.reduceNeg, Nat.reduceLT, Int.reduceToNat, Nat.reduceLeDiff, Nat.sub_zero, hl2, Option.getD_some])
              exact hk'
            · rw [decide_eq_false hy] at hk'
              (try simp (maxSteps := 1000000) (dsimp := false) (disch := (first | omega | (simp only [okR]; done) | (simp only [sizeR] <;> omega) | fail)) only [↓preR, postR, ↓w_stop, Nat.reduceEqDiff, Nat.reduceAdd, Nat.reduceSub, Nat.reduceMul, Int.reduceNeg, Nat.reduceLT, Int.reduceToNat, Nat.reduceLeDiff, Nat.sub_zero, hl2, Option.getD_some])
              exact hk'
        have htwe : (decide (1 < ((r.length + 1 : Nat) : Int)) && twB x r) = twB x r := by
          cases r with
          | nil => rfl
          | cons y r =>
            have : decide (1 < (((y :: r).length + 1 : Nat) : Int)) = true := by simp only [List.length_cons, decide_eq_true_eq]; omega
            rw [this, Bool.true_and]
        rw [htwe]
        have htl2 : twB x r = true → 2 ≤ (x :: r).length := by
          intro h
          cases r with
          | nil => cases h
          | cons y r => simp
        generalize htw : twB x r = tw at *
        generalize hinn : x :: r = inn at *
        have hil : 1 ≤ inn.length := by omega
        (try simp (maxSteps := 1000000) (dsimp := false) (disch := (first | omega | (simp only [okR]; done) | (simp only [sizeR] <;> omega) | fail)) only [↓preR, postR, ↓w_stop, Nat.reduceEqDiff, Nat.reduceAdd, Nat.reduceSub, Nat.reduceMul, Int.reduceNeg, Nat.reduceLT, Int.reduceToNat, Nat.reduceLeDiff, Nat.sub_zero])
        refine join_by fun J6 hJ6 => ?_
        have tail6 : ∀ (o : Int) s5, op0 x = o → Hs s5 X (Cel b [.int .i64 2, .string (bs text), .bool wi, .int .i64 o, .bool cb, .slice none 0 0] :: Rdr p out 0 :: R) → J6 [] s5 := by
          intro o s5 ho h5
          rw [ho] at hk hop
          refine hJ6 _ _ ?_
          clear hJ6
          have e5 := h5.obj
          (try simp (maxSteps := 1000000) (dsimp := false) (disch := (first | omega | (simp only [okR]; done) | (simp only [sizeR] <;> omega) | fail)) only [↓preR, postR, ↓w_stop, Nat.reduceEqDiff, Nat.reduceAdd, Nat.reduceSub, Nat.reduceMul, Int.reduceNeg, Nat.reduceLT, Int.reduceToNat, Nat.reduceLeDiff, Nat.sub_zero])
          by_cases hb : o = 0 ∨ (cb = true ∧ 6 ≤ o)
          · rw [if_pos hb] at hk
            obtain ⟨u, ep, hkk⟩ := hbad hk o s5 h5
            refine join_now ?_
            by_cases hb0 : o = 0
            · (try simp (maxSteps := 1000000) (dsimp := false) (disch := (first | omega | (simp only [okR]; done) | (simp only [sizeR] <;> omega) | fail)) only [↓preR, postR, ↓w_stop, Nat.reduceEqDiff, Nat.reduceAdd, Nat.reduceSub, Nat.reduceMul, Int.reduceNeg, Nat.reduceLT, Int.reduceToNat, Nat.reduceLeDiff, Nat.sub_zero, e5, ep])
              exact hkk
            · obtain ⟨hcb, h6⟩ := hb.resolve_left hb0
              rw [hcb] at e5
              (try simp (maxSteps := 1000000) (dsimp := false) (disch := (first | omega | (simp only [okR]; done) | (simp only [sizeR] <;> omega) | fail)) only [↓preR, postR, ↓w_stop, Nat.reduceEqDiff, Nat.reduceAdd, Nat.reduceSub, Nat.reduceMul, Int.reduceNeg, Nat.reduceLT, Int.reduceToNat, Nat.reduceLeDiff, Nat.sub_zero, e5, ep])
              exact hkk
          rw [if_neg hb] at hk
          have ho0 : ¬ o = 0 := fun h => hb (.inl h)
          have hc6 : cb = true → o < 6 := fun h => by
            by_cases h6 : 6 ≤ o
            · exact (hb (.inr ⟨h, h6⟩)).elim
            · omega
          refine join_by fun J7 hJ7 => ?_
          have tail7 : J7 [] s5 := by
            refine hJ7 _ _ ?_
            clear hJ7
            (try simp (maxSteps := 1000000) (dsimp := false) (disch := (first | omega | (simp only [okR]; done) | (simp only [sizeR] <;> omega) | fail)) only [↓preR, postR, ↓w_stop, Nat.reduceEqDiff, Nat.reduceAdd, Nat.reduceSub, Nat.reduceMul, Int.reduceNeg, Nat.reduceLT, Int.reduceToNat, Nat.reduceLeDiff, Nat.sub_zero])
            refine join_by fun J8 hJ8 => ?_
            have tail8 : ∀ (lg : Nat) (op : Int) s6, TK X R p k (brF (fun s w => rdP f s w []) inn way out text wi cb lg op) → 0 ≤ op ∧ op ≤ 9 → 1 ≤ lg → lg ≤ inn.length → Hs s6 X (Cel b [.int .i64 2, .string (bs text), .bool wi, .int .i64 op, .bool cb, .slice none 0 0] :: Rdr p out 0 :: R) → J8 [.int .i64 lg] s6 := by
              intro lg op s6 hk hop hl1 hl2 h6
              refine hJ8 _ _ ?_
              clear hJ8 hbad
              unfold brF at hk
              have hdl : (inn.drop lg).length = inn.length - lg := List.length_drop
              have hsub : (inn.drop lg).take (inn.length - lg) = inn.drop lg := List.take_of_length_le (by omega)
              (try simp (maxSteps := 1000000) (dsimp := false) (disch := (first | omega | (simp only [okR]; done) | (simp only [sizeR] <;> omega) | fail)) only [↓preR, postR, ↓w_stop, Nat.reduceEqDiff, Nat.reduceAdd, Nat.reduceSub, Nat.reduceMul, Int.reduceNeg, Nat.reduceLT, Int.reduceToNat, Nat.reduceLeDiff, Nat.sub_zero])
              refine join_by fun J9 hJ9 => ?_
              have tail9 : J9 [.int .i64 (nextW way op)] s6 := by
                refine hJ9 _ _ ?_
                clear hJ9
                (try simp (maxSteps := 1000000) (dsimp := false) (disch := (first | omega | (simp only [okR]; done) | (simp only [sizeR] <;> omega) | fail)) only [↓preR, postR, ↓w_stop, Nat.reduceEqDiff, Nat.reduceAdd, Nat.reduceSub, Nat.reduceMul, Int.reduceNeg, Nat.reduceLT, Int.reduceToNat, Nat.reduceLeDiff, Nat.sub_zero, hsub])
                refine ih (by omega) (by omega) (by unfold nextW; split <;> (try split) <;> omega) h6 ?_
                cases hrd : rdP f (inn.drop lg) (nextW way op) [] with
                | bad e' =>
                  simp only [hrd] at hk
                  intro X' s7 hX h7
                  have h8 := h7.put (cs' := [.int .i64 2, .string (bs text), .bool wi, .int .i64 op, .bool cb, .slice none 0 0])
                  (try simp (maxSteps := 1000000) (dsimp := false) (disch := (first | omega | (simp only [okR]; done) | (simp only [sizeR] <;> omega) | fail)) only [↓preR, postR, ↓w_stop, Nat.reduceEqDiff, Nat.reduceAdd, Nat.reduceSub, Nat.reduceMul, Int.reduceNeg, Nat.reduceLT, Int.reduceToNat, Nat.reduceLeDiff, Nat.sub_zero, h7.obj])
                  have h9 := h8.swap
                  generalize AS.put s7 _ _ = s8 at h8 h9 ⊢
                  obtain ⟨u, ep, hlt, ⟨ua, un, uc, rfl⟩, hset⟩ := rdr_set h9
                  have h10 := (hset e').swap
                  (try simp (maxSteps := 1000000) (dsimp := false) (disch := (first | omega | (simp only [okR]; done) | (simp only [sizeR] <;> omega) | fail)) only [↓preR, postR, ↓w_stop, Nat.reduceEqDiff, Nat.reduceAdd, Nat.reduceSub, Nat.reduceMul, Int.reduceNeg, Nat.reduceLT, Int.reduceToNat, Nat.reduceLeDiff, Nat.sub_zero, ep, h10.obj])
                  exact qadd_c (x := .mk 2 text wi op cb []) (v := .slice none 0 0) (leafOk (by unfold maxLen; omega) (by omega) (by omega)) (by have := hf.1; omega) (by have := hf.2; show txt out + text.length ≤ _; omega) (hset e') fun w s8 h11 => hk X' _ _ _ hX h11.swap.drop
                | ok w =>
                  simp only [hrd] at hk
                  intro X' v s7 hX hv h7
                  obtain ⟨va, vn, vc, rfl⟩ : ∃ a n c, v = .slice a n c := by
                    obtain ⟨a, c, h, _⟩ := hv
                    exact ⟨a, _, c, h⟩
                  have h8 := h7.put (cs' := [.int .i64 2, .string (bs text), .bool wi, .int .i64 op, .bool cb, .slice va vn vc])
                  (try simp (maxSteps := 1000000) (dsimp := false) (disch := (first | omega | (simp only [okR]; done) | (simp only [sizeR] <;> omega) | fail)) only [↓preR, postR, ↓w_stop, Nat.reduceEqDiff, Nat.reduceAdd, Nat.reduceSub, Nat.reduceMul, Int.reduceNeg, Nat.reduceLT, Int.reduceToNat, Nat.reduceLeDiff, Nat.sub_zero, h7.obj])
                  have h9 := h8.swap
                  generalize AS.put s7 _ _ = s8 at h8 h9 ⊢
                  obtain ⟨u, ep, hlt, ⟨ua, un, uc, rfl⟩, hset⟩ := rdr_set h9
                  have h10 := (hset 0).swap
                  (try simp (maxSteps := 1000000) (dsimp := false) (disch := (first | omega | (simp only [okR]; done) | (simp only [sizeR] <;> omega) | fail)) only [↓preR, postR, ↓w_stop, Nat.reduceEqDiff, Nat.reduceAdd, Nat.reduceSub, Nat.reduceMul, Int.reduceNeg, Nat.reduceLT, Int.reduceToNat, Nat.reduceLeDiff, Nat.sub_zero, ep, h10.obj])
                  exact qadd_c (x := .mk 2 text wi op cb w) (v := .slice va vn vc) (RpPt.made (p := .mk 2 text wi op cb w) (by show text.length ≤ _; unfold maxLen; omega) (by show inI64 2; unfold inI64; omega) (by show inI64 op; unfold inI64; omega) hv) (by have := hf.1; omega) (by have := hf.2; show txt out + text.length ≤ _; omega) (hset 0) fun w s8 h11 => hk X' _ _ hX h11.swap.drop
              clear hJ9
              unfold nextW at tail9
              have e6 := h6.obj
              by_cases hw2 : 2 ≤ way
              · rw [if_pos hw2] at tail9
                by_cases h6' : 6 ≤ op
                · rw [if_pos h6'] at tail9
                  (try simp (maxSteps := 1000000) (dsimp := false) (disch := (first | omega | (simp only [okR]; done) | (simp only [sizeR] <;> omega) | fail)) only [↓preR, postR, ↓w_stop, Nat.reduceEqDiff, Nat.reduceAdd, Nat.reduceSub, Nat.reduceMul, Int.reduceNeg, Nat.reduceLT, Int.reduceToNat, Nat.reduceLeDiff, Nat.sub_zero, e6])
                  exact tail9
                · rw [if_neg h6'] at tail9
                  (try simp (maxSteps := 1000000) (dsimp := false) (disch := (first | omega | (simp only [okR]; done) | (simp only [sizeR] <;> omega) | fail)) only [↓preR, postR, ↓w_stop, Nat.reduceEqDiff, Nat.reduceAdd, Nat.reduceSub, Nat.reduceMul, Int.reduceNeg, Nat.reduceLT, Int.reduceToNat, Nat.reduceLeDiff, Nat.sub_zero, e6])
                  exact tail9
              · rw [if_neg hw2] at tail9
                (try simp (maxSteps := 1000000) (dsimp := false) (disch := (first | omega | (simp only [okR]; done) | (simp only [sizeR] <;> omega) | fail)) only [↓preR, postR, ↓w_stop, Nat.reduceEqDiff, Nat.reduceAdd, Nat.reduceSub, Nat.reduceMul, Int.reduceNeg, Nat.reduceLT, Int.reduceToNat, Nat.reduceLeDiff, Nat.sub_zero, e6])
                exact tail9
            clear hJ8
            by_cases h6 : 6 ≤ o
            · cases tw with
              | true =>
                rw [if_pos ⟨h6, rfl⟩] at hk
                have h7 := h5.put (cs' := [.int .i64 2, .string (bs text), .bool wi, .int .i64 (o + 1), .bool cb, .slice none 0 0])
                (try simp (maxSteps := 1000000) (dsimp := false) (disch := (first | omega | (simp only [okR]; done) | (simp only [sizeR] <;> omega) | fail)) only [↓preR, postR, ↓w_stop, Nat.reduceEqDiff, Nat.reduceAdd, Nat.reduceSub, Nat.reduceMul, Int.reduceNeg, Nat.reduceLT, Int.reduceToNat, Nat.reduceLeDiff, Nat.sub_zero, e5])
                exact tail8 2 _ _ hk (by omega) (by omega) (htl2 rfl) h7
              | false =>
                rw [if_neg (by simp)] at hk
                (try simp (maxSteps := 1000000) (dsimp := false) (disch := (first | omega | (simp only [okR]; done) | (simp only [sizeR] <;> omega) | fail)) only [↓preR, postR, ↓w_stop, Nat.reduceEqDiff, Nat.reduceAdd, Nat.reduceSub, Nat.reduceMul, Int.reduceNeg, Nat.reduceLT, Int.reduceToNat, Nat.reduceLeDiff, Nat.sub_zero, e5])
                exact tail8 1 _ _ hk (by omega) (by omega) hil h5
            · rw [if_neg (fun h => h6 h.1)] at hk
              (try simp (maxSteps := 1000000) (dsimp := false) (disch := (first | omega | (simp only [okR]; done) | (simp only [sizeR] <;> omega) | fail)) only [↓preR, postR, ↓w_stop, Nat.reduceEqDiff, Nat.reduceAdd, Nat.reduceSub, Nat.reduceMul, Int.reduceNeg, Nat.reduceLT, Int.reduceToNat, Nat.reduceLeDiff, Nat.sub_zero, e5])
              exact tail8 1 _ _ hk (by omega) (by omega) hil h5
          clear hJ7
          cases hcb : cb with
          | true =>
            have := hc6 hcb
            rw [hcb] at e5
            (try simp (maxSteps := 1000000) (dsimp := false) (disch := (first | omega | (simp only [okR]; done) | (simp only [sizeR] <;> omega) | fail)) only [↓preR, postR, ↓w_stop, Nat.reduceEqDiff, Nat.reduceAdd, Nat.reduceSub, Nat.reduceMul, Int.reduceNeg, Nat.reduceLT, Int.reduceToNat, Nat.reduceLeDiff, Nat.sub_zero, e5])
            exact tail7
          | false =>
            rw [hcb] at e5
            (try simp (maxSteps := 1000000) (dsimp := false) (disch := (first | omega | (simp only [okR]; done) | (simp only [sizeR] <;> omega) | fail)) only [↓preR, postR, ↓w_stop, Nat.reduceEqDiff, Nat.reduceAdd, Nat.reduceSub, Nat.reduceMul, Int.reduceNeg, Nat.reduceLT, Int.reduceToNat, Nat.reduceLeDiff, Nat.sub_zero, e5])
            exact tail7
        clear hJ6
        have hput : ∀ o : Int, op0 x = o → J6 [] (s3.put b (.cells [.int .i64 2, .string (bs text), .bool wi, .int .i64 o, .bool cb, .slice none 0 0])) := fun o ho => tail6 o _ ho h4.put
        have i45 := u8_eq (c := x) (x := 45) (n := 45) rfl
        have i61 := u8_eq (c := x) (x := 61) (n := 61) rfl
        have i63 := u8_eq (c := x) (x := 63) (n := 63) rfl
        have i43 := u8_eq (c := x) (x := 43) (n := 43) rfl
        have i35 := u8_eq (c := x) (x := 35) (n := 35) rfl
        have i37 := u8_eq (c := x) (x := 37) (n := 37) rfl
        have e4 := h4.obj
        by_cases k1 : x.toNat = 45
        · (try simp (maxSteps := 1000000) (dsimp := false) (disch := (first | omega | (simp only [okR]; done) | (simp only [sizeR] <;> omega) | fail)) only [↓preR, postR, ↓w_stop, Nat.reduceEqDiff, Nat.reduceAdd, Nat.reduceSub, Nat.reduceMul, Int.reduceNeg, Nat.reduceLT, Int.reduceToNat, Nat.reduceLeDiff, Nat.sub_zero, e4])
          exact hput 2 (by simp [op0, i45, k1])
        by_cases k2 : x.toNat = 61
        · (try simp (maxSteps := 1000000) (dsimp := false) (disch := (first | omega | (simp only [okR]; done) | (simp only [sizeR] <;> omega) | fail)) only [↓preR, postR, ↓w_stop, Nat.reduceEqDiff, Nat.reduceAdd, Nat.reduceSub, Nat.reduceMul, Int.reduceNeg, Nat.reduceLT, Int.reduceToNat, Nat.reduceLeDiff, Nat.sub_zero, e4])
          exact hput 3 (by simp [op0, i45, i61, k1, k2])
        by_cases k3 : x.toNat = 63
        · (try simp (maxSteps := 1000000) (dsimp := false) (disch := (first | omega | (simp only [okR]; done) | (simp only [sizeR] <;> omega) | fail)) only [↓preR, postR, ↓w_stop, Nat.reduceEqDiff, Nat.reduceAdd, Nat.reduceSub, Nat.reduceMul, Int.reduceNeg, Nat.reduceLT, Int.reduceToNat, Nat.reduceLeDiff, Nat.sub_zero, e4])
          exact hput 4 (by simp [op0, i45, i61, i63, k1, k2, k3])
        by_cases k4 : x.toNat = 43
        · (try simp (maxSteps := 1000000) (dsimp := false) (disch := (first | omega | (simp only [okR]; done) | (simp only [sizeR] <;> omega) | fail)) only [↓preR, postR, ↓w_stop, Nat.reduceEqDiff, Nat.reduceAdd, Nat.reduceSub, Nat.reduceMul, Int.reduceNeg, Nat.reduceLT, Int.reduceToNat, Nat.reduceLeDiff, Nat.sub_zero, e4])
          exact hput 5 (by simp [op0, i45, i61, i63, i43, k1, k2, k3, k4])
        by_cases k5 : x.toNat = 35
        · (try simp (maxSteps := 1000000) (dsimp := false) (disch := (first | omega | (simp only [okR]; done) | (simp only [sizeR] <;> omega) | fail)) only [↓preR, postR, ↓w_stop, Nat.reduceEqDiff, Nat.reduceAdd, Nat.reduceSub, Nat.reduceMul, Int.reduceNeg, Nat.reduceLT, Int.reduceToNat, Nat.reduceLeDiff, Nat.sub_zero, e4])
          exact hput 6 (by simp [op0, i45, i61, i63, i43, i35, k1, k2, k3, k4, k5])
        by_cases k6 : x.toNat = 37
        · (try simp (maxSteps := 1000000) (dsimp := false) (disch := (first | omega | (simp only [okR]; done) | (simp only [sizeR] <;> omega) | fail)) only [↓preR, postR, ↓w_stop, Nat.reduceEqDiff, Nat.reduceAdd, Nat.reduceSub, Nat.reduceMul, Int.reduceNeg, Nat.reduceLT, Int.reduceToNat, Nat.reduceLeDiff, Nat.sub_zero, e4])
          exact hput 8 (by simp [op0, i45, i61, i63, i43, i35, i37, k1, k2, k3, k4, k5, k6])
        (try simp (maxSteps := 1000000) (dsimp := false) (disch := (first | omega | (simp only [okR]; done) | (simp only [sizeR] <;> omega) | fail)) only [↓preR, postR, ↓w_stop, Nat.reduceEqDiff, Nat.reduceAdd, Nat.reduceSub, Nat.reduceMul, Int.reduceNeg, Nat.reduceLT, Int.reduceToNat, Nat.reduceLeDiff, Nat.sub_zero, e4])
        exact tail6 0 _ (by simp [op0, i45, i61, i63, i43, i35, i37, k1, k2, k3, k4, k5, k6]) h4
    clear hJ4
    cases rest with
    | nil => exact (hr0 rfl).elim
    | cons c r =>
      have hlen : (c :: r).length = r.length + 1 := rfl
      have i58 := u8_eq (c := c) (x := 58) (n := 58) rfl
      by_cases h58 : c.toNat = 58
      · have hdr : r.take (r.length + 1 - 1) = r := List.take_of_length_le (by simp)
        have h4 := h3.put (cs' := [.int .i64 2, .string (bs text), .bool wi, .int .i64 0, .bool true, .slice none 0 0])
        (try simp (maxSteps := 1000000) (dsimp := false) (disch := (first | omega | (simp only [okR]; done) | (simp only [sizeR] <;> omega) | fail)) only [↓preR, postR, ↓w_stop, Nat.reduceEqDiff, Nat.reduceAdd, Nat.reduceSub, Nat.reduceMul, Int.reduceNeg, Nat.reduceLT, Int.reduceToNat, Nat.reduceLeDiff, Nat.sub_zero, hlen, Option.getD_some, h3.obj, hdr])
        exact tail4 true r _ (.inl ⟨rfl, by rw [i58.2 h58]⟩) h4
      · (try simp (maxSteps := 1000000) (dsimp := false) (disch := (first | omega | (simp only [okR]; done) | (simp only [sizeR] <;> omega) | fail)) only [↓preR, postR, ↓w_stop, Nat.reduceEqDiff, Nat.reduceAdd, Nat.reduceSub, Nat.reduceMul, Int.reduceNeg, Nat.reduceLT, Int.reduceToNat, Nat.reduceLeDiff, Nat.sub_zero, hlen, Option.getD_some])
        exact tail4 false _ _ (.inr ⟨rfl, rfl, fun h => h58 (i58.1 (by injection h))⟩) h3
  clear hJ1
  have hd1 : (s.drop 1).length = s.length - 1 := List.length_drop
  have hdt : (s.drop 1).take (s.length - 1) = s.drop 1 := List.take_of_length_le (by omega)
  by_cases hlt : 1 < s.length
  rotate_left
  · (try simp (maxSteps := 1000000) (dsimp := false) (disch := (first | omega | (simp only [okR]; done) | (simp only [sizeR] <;> omega) | fail)) only [↓preR, postR, ↓w_stop, Nat.reduceEqDiff, Nat.reduceAdd, Nat.reduceSub, Nat.reduceMul, Int.reduceNeg, Nat.reduceLT, Int.reduceToNat, Nat.reduceLeDiff, Nat.sub_zero])
    exact tail1 (fun h => hlt h.2.1)
  have hg0 : s[0]? = some s[0] := List.getElem?_eq_getElem (by omega)
  have i35 := u8_eq (c := s[0]) (x := 35) (n := 35) rfl
  have hpre : isPre [35] s = decide (s[0].toNat = 35) := by
    unfold isPre
    have : s.take ([35] : Str).length = [s[0]] := by
      cases s with
      | nil => simp at hlt
      | cons a l => rfl
    rw [this]
    by_cases h : s[0].toNat = 35
    · rw [i35.2 h]; simp
    · have : ¬ s[0] = 35 := fun e => h (i35.1 e)
      simp [this, h]
  by_cases hp : s[0].toNat = 35
  rotate_left
  · (try simp (maxSteps := 1000000) (dsimp := false) (disch := (first | omega | (simp only [okR]; done) | (simp only [sizeR] <;> omega) | fail)) only [↓preR, postR, ↓w_stop, Nat.reduceEqDiff, Nat.reduceAdd, Nat.reduceSub, Nat.reduceMul, Int.reduceNeg, Nat.reduceLT, Int.reduceToNat, Nat.reduceLeDiff, Nat.sub_zero, hg0, Option.getD_some])
    exact tail1 (fun h => by rw [hpre, decide_eq_false hp] at h; cases h.1)
  have hp' : isPre [35] s = true := by rw [hpre, decide_eq_true hp]
  (try simp (maxSteps := 1000000) (dsimp := false) (disch := (first | omega | (simp only [okR]; done) | (simp only [sizeR] <;> omega) | fail)) only [↓preR, postR, ↓w_stop, Nat.reduceEqDiff, Nat.reduceAdd, Nat.reduceSub, Nat.reduceMul, Int.reduceNeg, Nat.reduceLT, Int.reduceToNat, Nat.reduceLeDiff, Nat.sub_zero, hg0, Option.getD_some, hdt])
  refine qparam_c (by omega) ?_
  by_cases hpp : paramN (s.drop 1) = s.length - 1
  · rw [if_pos ⟨hp', hlt, hpp⟩] at hk
    have h4 := h2.put (cs' := [.int .i64 2, .string (bs (s.drop 1)), .bool wi, .int .i64 0, .bool false, .slice none 0 0])
    have h5 := h2.put (cs' := [.int .i64 2, .string (bs (s.drop 1)), .bool wi, .int .i64 1, .bool false, .slice none 0 0])
    have hppi : ((paramN (s.drop 1) : Int) = (s.length : Int) - 1) = True := eq_true (by omega)
    (try simp (maxSteps := 1000000) (dsimp := false) (disch := (first | omega | (simp only [okR]; done) | (simp only [sizeR] <;> omega) | fail)) only [↓preR, postR, ↓w_stop, Nat.reduceEqDiff, Nat.reduceAdd, Nat.reduceSub, Nat.reduceMul, Int.reduceNeg, Nat.reduceLT, Int.reduceToNat, Nat.reduceLeDiff, Nat.sub_zero, hppi, h2.obj, hdt, h4.obj, h5.obj])
    exact qadd_c (x := .mk 2 (s.drop 1) wi 1 false []) (v := .slice none 0 0) (leafOk (by unfold maxLen; omega) (by omega) (by omega)) (by have := hf.1; omega) (by have := hf.2; show txt out + (s.drop 1).length ≤ _; omega) h5.swap fun w s3 h5 => hk X _ _ (Ce.le_refl _) h5.swap.drop
  · have hppi : ((paramN (s.drop 1) : Int) = (s.length : Int) - 1) = False := eq_false (by omega)
    (try simp (maxSteps := 1000000) (dsimp := false) (disch := (first | omega | (simp only [okR]; done) | (simp only [sizeR] <;> omega) | fail)) only [↓preR, postR, ↓w_stop, Nat.reduceEqDiff, Nat.reduceAdd, Nat.reduceSub, Nat.reduceMul, Int.reduceNeg, Nat.reduceLT, Int.reduceToNat, Nat.reduceLeDiff, Nat.sub_zero, hppi])
    exact tail1 (fun h => hpp h.2.2)
end
end Go.Proofs.YtmgdkoidgoihfaaGreatDoor

/- Words, as the document has them: a thing, a text. Conditions: as each theorem says. -/
namespace Go.Proofs.YtmgdkoidgoihfaaGreatDoor
open E Go.Lib
open Go.RowKit
set_option linter.unusedVariables false
set_option linter.unusedSimpArgs false
set_option maxHeartbeats 1000000
set_option maxRecDepth 20000

section
variable {σ σ' : AS} {X : Ce} {R : List Ck} {k : Value → AS → Prop} {p n i f : Nat} {e : Int} {out : List Pt} {s t : Str} {c : UInt8} {way : Nat} {q : Bool}
theorem qthing_c (ih : QRdC f) (hsh : Shape t) (hs : t.length ≤ 100000) (hsf : t.length ≤ f) (hw : way ≤ 5) (hf : FitW out n) (hn : n ≤ 700000) (h : Hs σ X (Rdr p out 0 :: R))
    (hk : TK X R p k (thingP (fun s w => rdP f s w []) t way out)) : kCall Tryz.prog 32 [pv p, .string (bs t), .int .i64 way] σ k := by
  refine f32 ?_
  have ok : ∀ {o1 : List Pt}, TK X R p k (.ok o1) → ∀ (w : Value) (σ' : AS), Hs σ' X (Rdr p o1 0 :: R) → k undef σ' := fun h1 w σ' h2 => h1 X undef σ' (Ce.le_refl _) h2
  have i92 : ∀ c : UInt8, c = 92 ↔ c.toNat = 92 := fun c => u8_eq rfl
  have i36 : ∀ c : UInt8, c = 36 ↔ c.toNat = 36 := fun c => u8_eq rfl
  cases t with
  | nil => exact hsh.elim
  | cons c l =>
  cases l with
  | nil =>
    have hne : ([c] : Str).length = 1 := rfl
    rw [thing_eq] at hk
    (try simp (maxSteps := 1000000) (dsimp := false) (disch := (first | omega | (simp only [okR]; done) | (simp only [sizeR] <;> omega) | fail)) only [↓preR, postR, ↓w_stop, Nat.reduceEqDiff, Nat.reduceAdd, Nat.reduceSub, Nat.reduceMul, Int.reduceNeg, Nat.reduceLT, Int.reduceToNat, Nat.reduceLeDiff, Nat.sub_zero, F32, Option.getD_some])
    refine join_now ?_
    by_cases h92 : c = 92
    · rw [if_pos h92] at hk
      subst h92
      have u92 : (92 : UInt8).toNat = 92 := rfl
      (try simp (maxSteps := 1000000) (dsimp := false) (disch := (first | omega | (simp only [okR]; done) | (simp only [sizeR] <;> omega) | fail)) only [↓preR, postR, ↓w_stop, Nat.reduceEqDiff, Nat.reduceAdd, Nat.reduceSub, Nat.reduceMul, Int.reduceNeg, Nat.reduceLT, Int.reduceToNat, Nat.reduceLeDiff, Nat.sub_zero, Option.getD_some])
      exact qpair_c hf (by omega) hw (.inl rfl) h (ok hk)
    have n92 : ¬ c.toNat = 92 := fun h => h92 ((i92 c).2 h)
    rw [if_neg h92, if_pos rfl] at hk
    (try simp (maxSteps := 1000000) (dsimp := false) (disch := (first | omega | (simp only [okR]; done) | (simp only [sizeR] <;> omega) | fail)) only [↓preR, postR, ↓w_stop, Nat.reduceEqDiff, Nat.reduceAdd, Nat.reduceSub, Nat.reduceMul, Int.reduceNeg, Nat.reduceLT, Int.reduceToNat, Nat.reduceLeDiff, Nat.sub_zero])
    refine join_now ?_
    (try simp (maxSteps := 1000000) (dsimp := false) (disch := (first | omega | (simp only [okR]; done) | (simp only [sizeR] <;> omega) | fail)) only [↓preR, postR, ↓w_stop, Nat.reduceEqDiff, Nat.reduceAdd, Nat.reduceSub, Nat.reduceMul, Int.reduceNeg, Nat.reduceLT, Int.reduceToNat, Nat.reduceLeDiff, Nat.sub_zero])
    refine join_by fun J hJ => ?_
    have tail : (∀ b : Bool, b = (withinB way || decide (c.toNat = 36)) → ∀ (w : Value) (σ' : AS), Hs σ' X (Rdr p (addP out (litP [c] b)) 0 :: R) → k undef σ') → ∀ s1, Hs s1 X (Rdr p out 0 :: R) → J [] s1 := by
      intro hk s1 h1
      refine hJ _ _ ?_
      clear hJ
      (try simp (maxSteps := 1000000) (dsimp := false) (disch := (first | omega | (simp only [okR]; done) | (simp only [sizeR] <;> omega) | fail)) only [↓preR, postR, ↓w_stop, Nat.reduceEqDiff, Nat.reduceAdd, Nat.reduceSub, Nat.reduceMul, Int.reduceNeg, Nat.reduceLT, Int.reduceToNat, Nat.reduceLeDiff, Nat.sub_zero])
      refine qall_c hw ?_
      cases hwi : withinB way with
      | true =>
        (try simp (maxSteps := 1000000) (dsimp := false) (disch := (first | omega | (simp only [okR]; done) | (simp only [sizeR] <;> omega) | fail)) only [↓preR, postR, ↓w_stop, Nat.reduceEqDiff, Nat.reduceAdd, Nat.reduceSub, Nat.reduceMul, Int.reduceNeg, Nat.reduceLT, Int.reduceToNat, Nat.reduceLeDiff, Nat.sub_zero])
        exact qlit_c hf (by simp; omega) h1 (hk true (by rw [hwi]; rfl))
      | false =>
        by_cases h36 : c.toNat = 36
        · (try simp (maxSteps := 1000000) (dsimp := false) (disch := (first | omega | (simp only [okR]; done) | (simp only [sizeR] <;> omega) | fail)) only [↓preR, postR, ↓w_stop, Nat.reduceEqDiff, Nat.reduceAdd, Nat.reduceSub, Nat.reduceMul, Int.reduceNeg, Nat.reduceLT, Int.reduceToNat, Nat.reduceLeDiff, Nat.sub_zero])
          exact qlit_c hf (by simp; omega) h1 (hk true (by rw [hwi]; simp [h36]))
        · (try simp (maxSteps := 1000000) (dsimp := false) (disch := (first | omega | (simp only [okR]; done) | (simp only [sizeR] <;> omega) | fail)) only [↓preR, postR, ↓w_stop, Nat.reduceEqDiff, Nat.reduceAdd, Nat.reduceSub, Nat.reduceMul, Int.reduceNeg, Nat.reduceLT, Int.reduceToNat, Nat.reduceLeDiff, Nat.sub_zero])
          exact qlit_c hf (by simp; omega) h1 (hk false (by rw [hwi]; simp [h36]))
    clear hJ
    by_cases h36 : c = 36
    · rw [if_pos h36] at hk
      have n36 := (i36 c).1 h36
      have hnm : metaB c = false := by rw [h36]; rfl
      have go := tail (fun b hb => by rw [hb]; simp only [n36, decide_true, Bool.or_true]; exact ok hk)
      by_cases h0 : way = 0
      · (try simp (maxSteps := 1000000) (dsimp := false) (disch := (first | omega | (simp only [okR]; done) | (simp only [sizeR] <;> omega) | fail)) only [↓preR, postR, ↓w_stop, Nat.reduceEqDiff, Nat.reduceAdd, Nat.reduceSub, Nat.reduceMul, Int.reduceNeg, Nat.reduceLT, Int.reduceToNat, Nat.reduceLeDiff, Nat.sub_zero])
        refine qmeta_c (c := c) rfl ?_
        rw [hnm]
        (try simp (maxSteps := 1000000) (dsimp := false) (disch := (first | omega | (simp only [okR]; done) | (simp only [sizeR] <;> omega) | fail)) only [↓preR, postR, ↓w_stop, Nat.reduceEqDiff, Nat.reduceAdd, Nat.reduceSub, Nat.reduceMul, Int.reduceNeg, Nat.reduceLT, Int.reduceToNat, Nat.reduceLeDiff, Nat.sub_zero])
        exact go _ h
      · (try simp (maxSteps := 1000000) (dsimp := false) (disch := (first | omega | (simp only [okR]; done) | (simp only [sizeR] <;> omega) | fail)) only [↓preR, postR, ↓w_stop, Nat.reduceEqDiff, Nat.reduceAdd, Nat.reduceSub, Nat.reduceMul, Int.reduceNeg, Nat.reduceLT, Int.reduceToNat, Nat.reduceLeDiff, Nat.sub_zero])
        exact go _ h
    rw [if_neg h36] at hk
    have n36 : ¬ c.toNat = 36 := fun h => h36 ((i36 c).2 h)
    by_cases h0 : way = 0
    · (try simp (maxSteps := 1000000) (dsimp := false) (disch := (first | omega | (simp only [okR]; done) | (simp only [sizeR] <;> omega) | fail)) only [↓preR, postR, ↓w_stop, Nat.reduceEqDiff, Nat.reduceAdd, Nat.reduceSub, Nat.reduceMul, Int.reduceNeg, Nat.reduceLT, Int.reduceToNat, Nat.reduceLeDiff, Nat.sub_zero])
      refine qmeta_c (c := c) rfl ?_
      cases hm : metaB c with
      | true =>
        rw [if_pos ⟨h0, hm⟩] at hk
        obtain ⟨u, ep, hlt, ⟨ua, un, uc, rfl⟩, hset⟩ := rdr_set h
        (try simp (maxSteps := 1000000) (dsimp := false) (disch := (first | omega | (simp only [okR]; done) | (simp only [sizeR] <;> omega) | fail)) only [↓preR, postR, ↓w_stop, Nat.reduceEqDiff, Nat.reduceAdd, Nat.reduceSub, Nat.reduceMul, Int.reduceNeg, Nat.reduceLT, Int.reduceToNat, Nat.reduceLeDiff, Nat.sub_zero, ep])
        exact hk X _ _ out (Ce.le_refl _) (hset 10)
      | false =>
        rw [if_neg (by rw [hm]; simp)] at hk
        (try simp (maxSteps := 1000000) (dsimp := false) (disch := (first | omega | (simp only [okR]; done) | (simp only [sizeR] <;> omega) | fail)) only [↓preR, postR, ↓w_stop, Nat.reduceEqDiff, Nat.reduceAdd, Nat.reduceSub, Nat.reduceMul, Int.reduceNeg, Nat.reduceLT, Int.reduceToNat, Nat.reduceLeDiff, Nat.sub_zero])
        exact tail (fun b hb => by rw [hb]; simp only [n36, decide_false, Bool.or_false]; exact ok hk) _ h
    · rw [if_neg (fun h => h0 h.1)] at hk
      (try simp (maxSteps := 1000000) (dsimp := false) (disch := (first | omega | (simp only [okR]; done) | (simp only [sizeR] <;> omega) | fail)) only [↓preR, postR, ↓w_stop, Nat.reduceEqDiff, Nat.reduceAdd, Nat.reduceSub, Nat.reduceMul, Int.reduceNeg, Nat.reduceLT, Int.reduceToNat, Nat.reduceLeDiff, Nat.sub_zero])
      exact tail (fun b hb => by rw [hb]; simp only [n36, decide_false, Bool.or_false]; exact ok hk) _ h
  | cons x r =>
    have hlen : (c :: x :: r).length = r.length + 2 := rfl
    have hmid2 : (x :: r).take (r.length + 2 - 1 - 1) = mid (c :: x :: r) := by unfold mid; rw [hlen]; rfl
    have hml : (mid (c :: x :: r)).length = r.length := by rw [mid_len, hlen]; omega
    have hr0 : ¬ (x :: r = []) := by simp
    have u92 : (92 : UInt8).toNat = 92 := rfl
    have u39 : (39 : UInt8).toNat = 39 := rfl
    have u34 : (34 : UInt8).toNat = 34 := rfl
    have u36 : (36 : UInt8).toNat = 36 := rfl
    have u123 : (123 : UInt8).toNat = 123 := rfl
    have u40 : (40 : UInt8).toNat = 40 := rfl
    rw [thing_eq] at hk
    rw [hlen] at hs hsf
    (try simp (maxSteps := 1000000) (dsimp := false) (disch := (first | omega | (simp only [okR]; done) | (simp only [sizeR] <;> omega) | fail)) only [↓preR, postR, ↓w_stop, Nat.reduceEqDiff, Nat.reduceAdd, Nat.reduceSub, Nat.reduceMul, Int.reduceNeg, Nat.reduceLT, Int.reduceToNat, Nat.reduceLeDiff, Nat.sub_zero, F32, Option.getD_some])
    refine join_now ?_
    rcases hsh with ⟨rfl, rfl⟩ | rfl | rfl | ⟨rfl, hx, hr⟩
    · rw [if_pos rfl] at hk
      (try simp (maxSteps := 1000000) (dsimp := false) (disch := (first | omega | (simp only [okR]; done) | (simp only [sizeR] <;> omega) | fail)) only [↓preR, postR, ↓w_stop, Nat.reduceEqDiff, Nat.reduceAdd, Nat.reduceSub, Nat.reduceMul, Int.reduceNeg, Nat.reduceLT, Int.reduceToNat, Nat.reduceLeDiff, Nat.sub_zero, Option.getD_some])
      exact qpair_c hf (by omega) hw (.inr ⟨x, rfl⟩) h (ok hk)
    · rw [if_neg (by decide), if_neg hr0, if_pos rfl] at hk
      (try simp (maxSteps := 1000000) (dsimp := false) (disch := (first | omega | (simp only [okR]; done) | (simp only [sizeR] <;> omega) | fail)) only [↓preR, postR, ↓w_stop, Nat.reduceEqDiff, Nat.reduceAdd, Nat.reduceSub, Nat.reduceMul, Int.reduceNeg, Nat.reduceLT, Int.reduceToNat, Nat.reduceLeDiff, Nat.sub_zero, Option.getD_some])
      refine join_now ?_
      (try simp (maxSteps := 1000000) (dsimp := false) (disch := (first | omega | (simp only [okR]; done) | (simp only [sizeR] <;> omega) | fail)) only [↓preR, postR, ↓w_stop, Nat.reduceEqDiff, Nat.reduceAdd, Nat.reduceSub, Nat.reduceMul, Int.reduceNeg, Nat.reduceLT, Int.reduceToNat, Nat.reduceLeDiff, Nat.sub_zero, hlen, hmid2])
      refine join_now ?_
      (try simp (maxSteps := 1000000) (dsimp := false) (disch := (first | omega | (simp only [okR]; done) | (simp only [sizeR] <;> omega) | fail)) only [↓preR, postR, ↓w_stop, Nat.reduceEqDiff, Nat.reduceAdd, Nat.reduceSub, Nat.reduceMul, Int.reduceNeg, Nat.reduceLT, Int.reduceToNat, Nat.reduceLeDiff, Nat.sub_zero, Option.getD_some])
      exact qlit_c hf (by omega) h (ok hk)
    · rw [if_neg (by decide), if_neg hr0, if_neg (by decide), if_pos rfl] at hk
      (try simp (maxSteps := 1000000) (dsimp := false) (disch := (first | omega | (simp only [okR]; done) | (simp only [sizeR] <;> omega) | fail)) only [↓preR, postR, ↓w_stop, Nat.reduceEqDiff, Nat.reduceAdd, Nat.reduceSub, Nat.reduceMul, Int.reduceNeg, Nat.reduceLT, Int.reduceToNat, Nat.reduceLeDiff, Nat.sub_zero, Option.getD_some])
      refine join_now ?_
      (try simp (maxSteps := 1000000) (dsimp := false) (disch := (first | omega | (simp only [okR]; done) | (simp only [sizeR] <;> omega) | fail)) only [↓preR, postR, ↓w_stop, Nat.reduceEqDiff, Nat.reduceAdd, Nat.reduceSub, Nat.reduceMul, Int.reduceNeg, Nat.reduceLT, Int.reduceToNat, Nat.reduceLeDiff, Nat.sub_zero, hlen, hmid2])
      refine join_now ?_
      (try simp (maxSteps := 1000000) (dsimp := false) (disch := (first | omega | (simp only [okR]; done) | (simp only [sizeR] <;> omega) | fail)) only [↓preR, postR, ↓w_stop, Nat.reduceEqDiff, Nat.reduceAdd, Nat.reduceSub, Nat.reduceMul, Int.reduceNeg, Nat.reduceLT, Int.reduceToNat, Nat.reduceLeDiff, Nat.sub_zero, Option.getD_some])
      refine join_now ?_
      (try simp (maxSteps := 1000000) (dsimp := false) (disch := (first | omega | (simp only [okR]; done) | (simp only [sizeR] <;> omega) | fail)) only [↓preR, postR, ↓w_stop, Nat.reduceEqDiff, Nat.reduceAdd, Nat.reduceSub, Nat.reduceMul, Int.reduceNeg, Nat.reduceLT, Int.reduceToNat, Nat.reduceLeDiff, Nat.sub_zero, Option.getD_some])
      refine join_now ?_
      (try simp (maxSteps := 1000000) (dsimp := false) (disch := (first | omega | (simp only [okR]; done) | (simp only [sizeR] <;> omega) | fail)) only [↓preR, postR, ↓w_stop, Nat.reduceEqDiff, Nat.reduceAdd, Nat.reduceSub, Nat.reduceMul, Int.reduceNeg, Nat.reduceLT, Int.reduceToNat, Nat.reduceLeDiff, Nat.sub_zero, Option.getD_some])
      refine ih (way := 2) (by omega) (by omega) (by omega) h ?_
      generalize mid (34 :: x :: r) = m at *
      have hmf : m.length < f := by omega
      clear hmid2
      cases hrd : rdP f m 2 [] with
      | bad e' =>
        simp only [hrd] at hk
        have he := rd_ne f m 2 [] e' hmf hrd
        intro X' s1 hX h1
        (try simp (maxSteps := 1000000) (dsimp := false) (disch := (first | omega | (simp only [okR]; done) | (simp only [sizeR] <;> omega) | fail)) only [↓preR, postR, ↓w_stop, Nat.reduceEqDiff, Nat.reduceAdd, Nat.reduceSub, Nat.reduceMul, Int.reduceNeg, Nat.reduceLT, Int.reduceToNat, Nat.reduceLeDiff, Nat.sub_zero])
        refine join_now ?_
        obtain ⟨u, ep, hlt, ⟨ua, un, uc, rfl⟩, hset⟩ := rdr_set h1
        (try simp (maxSteps := 1000000) (dsimp := false) (disch := (first | omega | (simp only [okR]; done) | (simp only [sizeR] <;> omega) | fail)) only [↓preR, postR, ↓w_stop, Nat.reduceEqDiff, Nat.reduceAdd, Nat.reduceSub, Nat.reduceMul, Int.reduceNeg, Nat.reduceLT, Int.reduceToNat, Nat.reduceLeDiff, Nat.sub_zero, he, ep])
        exact hk X' _ _ out hX (hset e')
      | ok w =>
        simp only [hrd] at hk
        have hfw := rd_fit f m 2 0 [] w ⟨by simp, by simp [txt]⟩ hrd
        rw [Nat.zero_add] at hfw
        intro X' v s1 hX hv h1
        obtain ⟨a, b, o, cap, rfl, hc, hm, hat⟩ := pts_at hv
        unfold maxLen at hm
        (try simp (maxSteps := 1000000) (dsimp := false) (disch := (first | omega | (simp only [okR]; done) | (simp only [sizeR] <;> omega) | fail)) only [↓preR, postR, ↓w_stop, Nat.reduceEqDiff, Nat.reduceAdd, Nat.reduceSub, Nat.reduceMul, Int.reduceNeg, Nat.reduceLT, Int.reduceToNat, Nat.reduceLeDiff, Nat.sub_zero])
        refine join_now ?_
        (try simp (maxSteps := 1000000) (dsimp := false) (disch := (first | omega | (simp only [okR]; done) | (simp only [sizeR] <;> omega) | fail)) only [↓preR, postR, ↓w_stop, Nat.reduceEqDiff, Nat.reduceAdd, Nat.reduceSub, Nat.reduceMul, Int.reduceNeg, Nat.reduceLT, Int.reduceToNat, Nat.reduceLeDiff, Nat.sub_zero])
        refine join_by fun J7 hJ7 => ?_
        have tail : ∀ o0 s2, Hs s2 X' (Rdr p o0 0 :: R) → FitW o0 (n + 1) → w.foldl addP o0 = w.foldl addP (if w = [] then addP out (litP [] true) else out) → J7 [] s2 := by
          intro o0 s2 h2 hf2 he
          refine hJ7 _ _ ?_
          clear hJ7
          have hf2l := hf2.1
          have hf2t := hf2.2
          have hwl := hfw.1
          have hwt := hfw.2
          (try simp (maxSteps := 1000000) (dsimp := false) (disch := (first | omega | (simp only [okR]; done) | (simp only [sizeR] <;> omega) | fail)) only [↓preR, postR, ↓w_stop, Nat.reduceEqDiff, Nat.reduceAdd, Nat.reduceSub, Nat.reduceMul, Int.reduceNeg, Nat.reduceLT, Int.reduceToNat, Nat.reduceLeDiff, Nat.sub_zero])
          refine loop_inv (fun nn xs s1 => ∃ (j : Nat) (o1 : List Pt), xs = [.int .i64 j] ∧ j ≤ w.length ∧ Hs s1 X' (Rdr p o1 0 :: R) ∧ (w.drop j).foldl addP o1 = w.foldl addP o0 ∧ o1.length ≤ n + 1 + j ∧ txt o1 + txt (w.drop j) ≤ n + 1 + txt w ∧ nn = w.length - j) _ ⟨0, o0, rfl, Nat.zero_le _, h2, rfl, hf2l, by simp; omega, rfl⟩ ?_
          rintro _ _ s3 again ⟨j, o1, rfl, hj, h3, hfo, hl, htx, rfl⟩ hag
          (try simp (maxSteps := 1000000) (dsimp := false) (disch := (first | omega | (simp only [okR]; done) | (simp only [sizeR] <;> omega) | fail)) only [↓preR, postR, ↓w_stop, Nat.reduceEqDiff, Nat.reduceAdd, Nat.reduceSub, Nat.reduceMul, Int.reduceNeg, Nat.reduceLT, Int.reduceToNat, Nat.reduceLeDiff, Nat.sub_zero])
          refine join_now ?_
          by_cases hlt : j < w.length
          · rw [List.drop_eq_getElem_cons hlt] at hfo htx
            simp only [List.foldl_cons, txt] at hfo htx
            obtain ⟨rfl, u, g0, g1, g2, g3, g4, c0, c1, c2, c3, c4, c5⟩ := hat j hlt
            generalize w[j] = x at *
            obtain ⟨va, vn, vc, rfl⟩ := g0.val
            have d0 := h3.ldx c0
            have d1 := h3.ldx c1
            have d2 := h3.ldx c2
            have d3 := h3.ldx c3
            have d4 := h3.ldx c4
            have d5 := h3.ldx c5
            (try simp (maxSteps := 1000000) (dsimp := false) (disch := (first | omega | (simp only [okR]; done) | (simp only [sizeR] <;> omega) | fail)) only [↓preR, postR, ↓w_stop, Nat.reduceEqDiff, Nat.reduceAdd, Nat.reduceSub, Nat.reduceMul, Int.reduceNeg, Nat.reduceLT, Int.reduceToNat, Nat.reduceLeDiff, Nat.sub_zero])
            refine join_now ?_
            (try simp (maxSteps := 1000000) (dsimp := false) (disch := (first | omega | (simp only [okR]; done) | (simp only [sizeR] <;> omega) | fail)) only [↓preR, postR, ↓w_stop, Nat.reduceEqDiff, Nat.reduceAdd, Nat.reduceSub, Nat.reduceMul, Int.reduceNeg, Nat.reduceLT, Int.reduceToNat, Nat.reduceLeDiff, Nat.sub_zero, d0, d1, d2, d3, d4, d5])
            refine qadd_c (x := x) (v := .slice va vn vc) g0 (by omega) (by omega) h3 fun u1 s4 h4 => ?_
            (try simp (maxSteps := 1000000) (dsimp := false) (disch := (first | omega | (simp only [okR]; done) | (simp only [sizeR] <;> omega) | fail)) only [↓preR, postR, ↓w_stop, Nat.reduceEqDiff, Nat.reduceAdd, Nat.reduceSub, Nat.reduceMul, Int.reduceNeg, Nat.reduceLT, Int.reduceToNat, Nat.reduceLeDiff, Nat.sub_zero])
            have hal := add_len o1 x
            have hat' := add_txt o1 x
            exact hag _ _ _ ⟨j + 1, addP o1 x, rfl, hlt, h4, hfo, by omega, by omega, rfl⟩ (by omega)
          · rw [List.drop_of_length_le (by omega)] at hfo
            (try simp (maxSteps := 1000000) (dsimp := false) (disch := (first | omega | (simp only [okR]; done) | (simp only [sizeR] <;> omega) | fail)) only [↓preR, postR, ↓w_stop, Nat.reduceEqDiff, Nat.reduceAdd, Nat.reduceSub, Nat.reduceMul, Int.reduceNeg, Nat.reduceLT, Int.reduceToNat, Nat.reduceLeDiff, Nat.sub_zero])
            have hfo : o1 = w.foldl addP o0 := hfo
            rw [hfo, he] at h3
            exact hk X' _ _ hX h3
        clear hJ7
        by_cases hw0 : w = []
        · subst hw0
          (try simp (maxSteps := 1000000) (dsimp := false) (disch := (first | omega | (simp only [okR]; done) | (simp only [sizeR] <;> omega) | fail)) only [↓preR, postR, ↓w_stop, Nat.reduceEqDiff, Nat.reduceAdd, Nat.reduceSub, Nat.reduceMul, Int.reduceNeg, Nat.reduceLT, Int.reduceToNat, Nat.reduceLeDiff, Nat.sub_zero])
          refine qlit_c hf (by simp; omega) h1 fun u s2 h2 => ?_
          (try simp (maxSteps := 1000000) (dsimp := false) (disch := (first | omega | (simp only [okR]; done) | (simp only [sizeR] <;> omega) | fail)) only [↓preR, postR, ↓w_stop, Nat.reduceEqDiff, Nat.reduceAdd, Nat.reduceSub, Nat.reduceMul, Int.reduceNeg, Nat.reduceLT, Int.reduceToNat, Nat.reduceLeDiff, Nat.sub_zero])
          exact tail _ _ h2 (hf.add (by simp [Pt.text]) (by omega)) (by simp)
        · have : ¬ w.length = 0 := fun h => hw0 (List.eq_nil_of_length_eq_zero h)
          (try simp (maxSteps := 1000000) (dsimp := false) (disch := (first | omega | (simp only [okR]; done) | (simp only [sizeR] <;> omega) | fail)) only [↓preR, postR, ↓w_stop, Nat.reduceEqDiff, Nat.reduceAdd, Nat.reduceSub, Nat.reduceMul, Int.reduceNeg, Nat.reduceLT, Int.reduceToNat, Nat.reduceLeDiff, Nat.sub_zero])
          exact tail _ _ h1 (hf.le (by omega)) (by rw [if_neg hw0])
    · rw [if_neg (by decide), if_neg hr0, if_neg (by decide), if_neg (by decide)] at hk
      have hrl : 1 ≤ r.length := List.length_pos_iff.2 hr
      (try simp (maxSteps := 1000000) (dsimp := false) (disch := (first | omega | (simp only [okR]; done) | (simp only [sizeR] <;> omega) | fail)) only [↓preR, postR, ↓w_stop, Nat.reduceEqDiff, Nat.reduceAdd, Nat.reduceSub, Nat.reduceMul, Int.reduceNeg, Nat.reduceLT, Int.reduceToNat, Nat.reduceLeDiff, Nat.sub_zero, Option.getD_some])
      refine join_now ?_
      (try simp (maxSteps := 1000000) (dsimp := false) (disch := (first | omega | (simp only [okR]; done) | (simp only [sizeR] <;> omega) | fail)) only [↓preR, postR, ↓w_stop, Nat.reduceEqDiff, Nat.reduceAdd, Nat.reduceSub, Nat.reduceMul, Int.reduceNeg, Nat.reduceLT, Int.reduceToNat, Nat.reduceLeDiff, Nat.sub_zero, hlen, hmid2])
      refine join_now ?_
      (try simp (maxSteps := 1000000) (dsimp := false) (disch := (first | omega | (simp only [okR]; done) | (simp only [sizeR] <;> omega) | fail)) only [↓preR, postR, ↓w_stop, Nat.reduceEqDiff, Nat.reduceAdd, Nat.reduceSub, Nat.reduceMul, Int.reduceNeg, Nat.reduceLT, Int.reduceToNat, Nat.reduceLeDiff, Nat.sub_zero, Option.getD_some])
      refine join_now ?_
      have hmm : mid (36 :: x :: r) = x :: r.take (r.length - 1) := by
        unfold mid
        rw [hlen, show r.length + 2 - 2 = (r.length - 1) + 1 from by omega]
        rfl
      have hmt : (r.take (r.length - 1)).take (r.length - 1) = r.take (r.length - 1) := List.take_of_length_le (by rw [List.length_take]; omega)
      have hmtl : (r.take (r.length - 1)).length = r.length - 1 := by rw [List.length_take]; omega
      have hml2 : (x :: r.take (r.length - 1)).length = r.length - 1 + 1 := by rw [List.length_cons, hmtl]
      rw [hmm]
      rcases hx with rfl | rfl
      · rw [if_pos (show (((123 : UInt8) :: r).head? = some 123) from rfl)] at hk
        have hbt : r.take (r.length - 1) = (((123 : UInt8) :: r).drop 1).take (((123 : UInt8) :: r).length - 2) := by
          show r.take _ = r.take _
          congr 1
        rw [← hbt] at hk
        (try simp (maxSteps := 1000000) (dsimp := false) (disch := (first | omega | (simp only [okR]; done) | (simp only [sizeR] <;> omega) | fail)) only [↓preR, postR, ↓w_stop, Nat.reduceEqDiff, Nat.reduceAdd, Nat.reduceSub, Nat.reduceMul, Int.reduceNeg, Nat.reduceLT, Int.reduceToNat, Nat.reduceLeDiff, Nat.sub_zero, Option.getD_some, hml2, Nat.add_sub_cancel, hmt])
        exact qbrace_c ih (by omega) (by omega) hw hf (by omega) h hk.any
      · rw [if_neg (by simp)] at hk
        (try simp (maxSteps := 1000000) (dsimp := false) (disch := (first | omega | (simp only [okR]; done) | (simp only [sizeR] <;> omega) | fail)) only [↓preR, postR, ↓w_stop, Nat.reduceEqDiff, Nat.reduceAdd, Nat.reduceSub, Nat.reduceMul, Int.reduceNeg, Nat.reduceLT, Int.reduceToNat, Nat.reduceLeDiff, Nat.sub_zero, Option.getD_some, hml2, Nat.add_sub_cancel, hmt])
        refine join_now ?_
        (try simp (maxSteps := 1000000) (dsimp := false) (disch := (first | omega | (simp only [okR]; done) | (simp only [sizeR] <;> omega) | fail)) only [↓preR, postR, ↓w_stop, Nat.reduceEqDiff, Nat.reduceAdd, Nat.reduceSub, Nat.reduceMul, Int.reduceNeg, Nat.reduceLT, Int.reduceToNat, Nat.reduceLeDiff, Nat.sub_zero, Option.getD_some, hml2, Nat.add_sub_cancel, hmt])
        refine qall_c hw ?_
        (try simp (maxSteps := 1000000) (dsimp := false) (disch := (first | omega | (simp only [okR]; done) | (simp only [sizeR] <;> omega) | fail)) only [↓preR, postR, ↓w_stop, Nat.reduceEqDiff, Nat.reduceAdd, Nat.reduceSub, Nat.reduceMul, Int.reduceNeg, Nat.reduceLT, Int.reduceToNat, Nat.reduceLeDiff, Nat.sub_zero])
        exact qrun_c (t := 40 :: r) hf (by simp only [List.length_cons]; omega) (by simp only [List.length_cons]; omega) h (ok hk)
end
end Go.Proofs.YtmgdkoidgoihfaaGreatDoor

/- Words, as the document has them: a text is read; the law WordParses. Conditions: as each theorem says. -/
namespace Go.Proofs.YtmgdkoidgoihfaaGreatDoor
open E Go.Lib
open Go.RowKit
set_option linter.unusedVariables false
set_option linter.unusedSimpArgs false
set_option maxHeartbeats 1000000
set_option maxRecDepth 20000

section
variable {σ σ' : AS} {X : Ce} {R : List Ck} {k : Value → AS → Prop} {p n i f : Nat} {e : Int} {out : List Pt} {s t : Str} {c : UInt8} {way : Nat} {q : Bool}
theorem qread_c : ∀ f, QRdC f := by
  intro f
  induction f using Nat.strongRecOn with
  | ind f ih =>
    intro σ X R k s way hsf hs hw h hk
    refine f19 ?_
    have h1 := Rdr.new h
    (try simp (maxSteps := 1000000) (dsimp := false) (disch := (first | omega | (simp only [okR]; done) | (simp only [sizeR] <;> omega) | fail)) only [↓preR, postR, ↓w_stop, Nat.reduceEqDiff, Nat.reduceAdd, Nat.reduceSub, Nat.reduceMul, Int.reduceNeg, Nat.reduceLT, Int.reduceToNat, Nat.reduceLeDiff, Nat.sub_zero, F19])
    generalize AS.new σ _ = s1 at h1 ⊢
    generalize σ.n = p at h1 ⊢
    refine join_by fun J1 hJ1 => ?_
    have tail1 : ∀ X' s2 out, Ce.le X X' → rdP f s way [] = .ok out → Hs s2 X' (Rdr p out 0 :: R) → J1 [] s2 := by
      intro X' s2 out hX hr h2
      rw [hr] at hk
      refine hJ1 _ _ ?_
      clear hJ1
      obtain ⟨u, _, h2⟩ := h2.opened
      have h2 : Hs s2 X' (Cel p [u, .int .i64 0] :: E.Own (α := Pt) u out :: R) := h2
      (try simp (maxSteps := 1000000) (dsimp := false) (disch := (first | omega | (simp only [okR]; done) | (simp only [sizeR] <;> omega) | fail)) only [↓preR, postR, ↓w_stop, Nat.reduceEqDiff, Nat.reduceAdd, Nat.reduceSub, Nat.reduceMul, Int.reduceNeg, Nat.reduceLT, Int.reduceToNat, Nat.reduceLeDiff, Nat.sub_zero, h2.obj])
      obtain ⟨X2, hX2, hr2, h3⟩ := h2.drop.keep
      exact hk X2 _ _ (Ce.le_trans hX hX2) hr2 h3
    clear hJ1
    (try simp (maxSteps := 1000000) (dsimp := false) (disch := (first | omega | (simp only [okR]; done) | (simp only [sizeR] <;> omega) | fail)) only [↓preR, postR, ↓w_stop, Nat.reduceEqDiff, Nat.reduceAdd, Nat.reduceSub, Nat.reduceMul, Int.reduceNeg, Nat.reduceLT, Int.reduceToNat, Nat.reduceLeDiff, Nat.sub_zero])
    refine loop_inv (fun nn xs s2 => ∃ (X1 : Ce) (j g : Nat) (o1 : List Pt), xs = [.int .i64 j] ∧ Ce.le X X1 ∧ j ≤ s.length ∧ s.length - j < g ∧ g ≤ f ∧ FitW o1 j ∧ Hs s2 X1 (Rdr p o1 0 :: R) ∧ rdP g (s.drop j) way o1 = rdP f s way [] ∧ nn = s.length - j) _
      ⟨X, 0, f, [], rfl, Ce.le_refl _, Nat.zero_le _, by omega, Nat.le_refl _, ⟨Nat.zero_le _, Nat.zero_le _⟩, h1, rfl, rfl⟩ ?_
    rintro _ _ s2 again ⟨X1, j, g, o1, rfl, hX1, hj, hg, hgf, hf, h2, hr, rfl⟩ hag
    obtain ⟨g, rfl⟩ : ∃ g', g = g' + 1 := ⟨g - 1, by omega⟩
    (try simp (maxSteps := 1000000) (dsimp := false) (disch := (first | omega | (simp only [okR]; done) | (simp only [sizeR] <;> omega) | fail)) only [↓preR, postR, ↓w_stop, Nat.reduceEqDiff, Nat.reduceAdd, Nat.reduceSub, Nat.reduceMul, Int.reduceNeg, Nat.reduceLT, Int.reduceToNat, Nat.reduceLeDiff, Nat.sub_zero])
    refine join_now ?_
    by_cases hlt : j < s.length
    rotate_left
    · rw [List.drop_of_length_le (by omega), rd_nil] at hr
      (try simp (maxSteps := 1000000) (dsimp := false) (disch := (first | omega | (simp only [okR]; done) | (simp only [sizeR] <;> omega) | fail)) only [↓preR, postR, ↓w_stop, Nat.reduceEqDiff, Nat.reduceAdd, Nat.reduceSub, Nat.reduceMul, Int.reduceNeg, Nat.reduceLT, Int.reduceToNat, Nat.reduceLeDiff, Nat.sub_zero])
      exact tail1 X1 s2 o1 hX1 hr.symm h2
    rw [drop_c hlt, rd_cons] at hr
    have hgd : (s[j]?.getD 0) = s[j] := by simp [hlt]
    (try simp (maxSteps := 1000000) (dsimp := false) (disch := (first | omega | (simp only [okR]; done) | (simp only [sizeR] <;> omega) | fail)) only [↓preR, postR, ↓w_stop, Nat.reduceEqDiff, Nat.reduceAdd, Nat.reduceSub, Nat.reduceMul, Int.reduceNeg, Nat.reduceLT, Int.reduceToNat, Nat.reduceLeDiff, Nat.sub_zero, hgd])
    refine join_by fun J4 hJ4 => ?_
    have i34 := u8_eq (c := s[j]) (x := 34) (n := 34) rfl
    have tail4 : ∀ s3, ¬ (s[j] = 36 ∧ 0 < namedN (s.drop (j + 1))) → Hs s3 X1 (Rdr p o1 0 :: R) → J4 [.int .i64 j] s3 := by
      intro s3 hc h3
      rw [if_neg hc] at hr
      refine hJ4 _ _ ?_
      clear hJ4
      (try simp (maxSteps := 1000000) (dsimp := false) (disch := (first | omega | (simp only [okR]; done) | (simp only [sizeR] <;> omega) | fail)) only [↓preR, postR, ↓w_stop, Nat.reduceEqDiff, Nat.reduceAdd, Nat.reduceSub, Nat.reduceMul, Int.reduceNeg, Nat.reduceLT, Int.reduceToNat, Nat.reduceLeDiff, Nat.sub_zero])
      refine join_by fun J5 hJ5 => ?_
      have tail5 : J5 [.bool (qOf s[j] way)] s3 := by
        refine hJ5 _ _ ?_
        clear hJ5
        (try simp (maxSteps := 1000000) (dsimp := false) (disch := (first | omega | (simp only [okR]; done) | (simp only [sizeR] <;> omega) | fail)) only [↓preR, postR, ↓w_stop, Nat.reduceEqDiff, Nat.reduceAdd, Nat.reduceSub, Nat.reduceMul, Int.reduceNeg, Nat.reduceLT, Int.reduceToNat, Nat.reduceLeDiff, Nat.sub_zero])
        refine rpiece_c (by omega) (by unfold inI64; omega) h3 fun s4 h4 => ?_
        unfold pieceP
        rw [if_neg (by omega), Int.toNat_natCast, drop_c hlt]
        cases hgo : go FU none (s[j] :: s.drop (j + 1)) (qOf s[j] way) (!qOf s[j] way) false 0 with
        | cut => exact (go_cut (List.cons_ne_nil _ _) hgo).elim
        | bad e' b =>
          rw [hgo] at hr
          simp only at hr
          rw [← hr] at hk
          have he : ¬ e' = 0 := by have := (go_bad hgo).2; omega
          (try simp (maxSteps := 1000000) (dsimp := false) (disch := (first | omega | (simp only [okR]; done) | (simp only [sizeR] <;> omega) | fail)) only [↓preR, postR, ↓w_stop, Nat.reduceEqDiff, Nat.reduceAdd, Nat.reduceSub, Nat.reduceMul, Int.reduceNeg, Nat.reduceLT, Int.reduceToNat, Nat.reduceLeDiff, Nat.sub_zero])
          refine join_now ?_
          (try simp (maxSteps := 1000000) (dsimp := false) (disch := (first | omega | (simp only [okR]; done) | (simp only [sizeR] <;> omega) | fail)) only [↓preR, postR, ↓w_stop, Nat.reduceEqDiff, Nat.reduceAdd, Nat.reduceSub, Nat.reduceMul, Int.reduceNeg, Nat.reduceLT, Int.reduceToNat, Nat.reduceLeDiff, Nat.sub_zero, he])
          exact hk X1 _ hX1 h4.drop
        | ok m =>
          rw [hgo] at hr
          simp only at hr
          have hsh : Shape ((s[j] :: s.drop (j + 1)).take m) := go_shape (f := 2099999) hgo
          have hm := go_ok hgo
          rw [← drop_c hlt] at hm hsh hr
          rw [List.length_drop] at hm
          have htl : ((s.drop j).take m).length = m := by rw [List.length_take, List.length_drop]; omega
          have hsub : (s.drop j).take (j + m - j) = (s.drop j).take m := by rw [show j + m - j = m from by omega]
          have hje : ((j : Int) + (m : Int)).toNat = j + m := by omega
          (try simp (maxSteps := 1000000) (dsimp := false) (disch := (first | omega | (simp only [okR]; done) | (simp only [sizeR] <;> omega) | fail)) only [↓preR, postR, ↓w_stop, Nat.reduceEqDiff, Nat.reduceAdd, Nat.reduceSub, Nat.reduceMul, Int.reduceNeg, Nat.reduceLT, Int.reduceToNat, Nat.reduceLeDiff, Nat.sub_zero])
          refine join_now ?_
          (try simp (maxSteps := 1000000) (dsimp := false) (disch := (first | omega | (simp only [okR]; done) | (simp only [sizeR] <;> omega) | fail)) only [↓preR, postR, ↓w_stop, Nat.reduceEqDiff, Nat.reduceAdd, Nat.reduceSub, Nat.reduceMul, Int.reduceNeg, Nat.reduceLT, Int.reduceToNat, Nat.reduceLeDiff, Nat.sub_zero, hje, hsub, Nat.add_sub_cancel_left])
          have hne : ∀ e', thingP (fun s w => rdP g s w []) ((s.drop j).take m) way o1 = .bad e' → ¬ e' = 0 := fun e' he => thing_ne (fun s' w e hs' he => rd_ne g s' w [] e (by omega) he) he
          refine qthing_c (f := g) (n := j) (ih g (by omega)) hsh (by omega) (by omega) hw hf (by omega) h4 ?_
          cases hth : thingP (fun s w => rdP g s w []) ((s.drop j).take m) way o1 with
          | bad e' =>
            rw [hth] at hr
            simp only at hr
            rw [← hr] at hk
            intro X2 w s5 o2 hX2 h5
            have he := hne e' hth
            obtain ⟨u, ep, hlt', ⟨ua, un, uc, rfl⟩, hset⟩ := rdr_set h5
            (try simp (maxSteps := 1000000) (dsimp := false) (disch := (first | omega | (simp only [okR]; done) | (simp only [sizeR] <;> omega) | fail)) only [↓preR, postR, ↓w_stop, Nat.reduceEqDiff, Nat.reduceAdd, Nat.reduceSub, Nat.reduceMul, Int.reduceNeg, Nat.reduceLT, Int.reduceToNat, Nat.reduceLeDiff, Nat.sub_zero])
            refine join_now ?_
            (try simp (maxSteps := 1000000) (dsimp := false) (disch := (first | omega | (simp only [okR]; done) | (simp only [sizeR] <;> omega) | fail)) only [↓preR, postR, ↓w_stop, Nat.reduceEqDiff, Nat.reduceAdd, Nat.reduceSub, Nat.reduceMul, Int.reduceNeg, Nat.reduceLT, Int.reduceToNat, Nat.reduceLeDiff, Nat.sub_zero, ep, he])
            exact hk X2 _ (Ce.le_trans hX1 hX2) h5.drop
          | ok o2 =>
            rw [hth] at hr
            simp only [List.drop_drop] at hr
            have hf2 := thing_fit (n := j) (fun s' w l hs' hl => by
              have := rd_fit g s' w 0 [] l ⟨by simp, by simp [txt]⟩ hl
              rwa [Nat.zero_add] at this) hf hth (fun _ => by rw [htl]; omega)
            rw [htl] at hf2
            intro X2 w s5 hX2 h5
            obtain ⟨u, ep, hlt', ⟨ua, un, uc, rfl⟩, hset⟩ := rdr_set h5
            (try simp (maxSteps := 1000000) (dsimp := false) (disch := (first | omega | (simp only [okR]; done) | (simp only [sizeR] <;> omega) | fail)) only [↓preR, postR, ↓w_stop, Nat.reduceEqDiff, Nat.reduceAdd, Nat.reduceSub, Nat.reduceMul, Int.reduceNeg, Nat.reduceLT, Int.reduceToNat, Nat.reduceLeDiff, Nat.sub_zero])
            refine join_now ?_
            (try simp (maxSteps := 1000000) (dsimp := false) (disch := (first | omega | (simp only [okR]; done) | (simp only [sizeR] <;> omega) | fail)) only [↓preR, postR, ↓w_stop, Nat.reduceEqDiff, Nat.reduceAdd, Nat.reduceSub, Nat.reduceMul, Int.reduceNeg, Nat.reduceLT, Int.reduceToNat, Nat.reduceLeDiff, Nat.sub_zero, ep])
            exact hag _ _ _ ⟨X2, j + m, g, o2, rfl, Ce.le_trans hX1 hX2, by omega, by omega, by omega, hf2, h5, hr, rfl⟩ (by omega)
      clear hJ5
      by_cases h34 : s[j].toNat = 34
      · by_cases h5 : way = 5
        · have e : qOf s[j] way = true := by simp [qOf, h5]
          rw [e] at tail5
          (try simp (maxSteps := 1000000) (dsimp := false) (disch := (first | omega | (simp only [okR]; done) | (simp only [sizeR] <;> omega) | fail)) only [↓preR, postR, ↓w_stop, Nat.reduceEqDiff, Nat.reduceAdd, Nat.reduceSub, Nat.reduceMul, Int.reduceNeg, Nat.reduceLT, Int.reduceToNat, Nat.reduceLeDiff, Nat.sub_zero, hgd])
          exact tail5
        · have e : qOf s[j] way = false := by simp [qOf, h5, i34.2 h34]
          rw [e] at tail5
          (try simp (maxSteps := 1000000) (dsimp := false) (disch := (first | omega | (simp only [okR]; done) | (simp only [sizeR] <;> omega) | fail)) only [↓preR, postR, ↓w_stop, Nat.reduceEqDiff, Nat.reduceAdd, Nat.reduceSub, Nat.reduceMul, Int.reduceNeg, Nat.reduceLT, Int.reduceToNat, Nat.reduceLeDiff, Nat.sub_zero, hgd])
          exact tail5
      · by_cases h2 : 2 ≤ way
        · have e : qOf s[j] way = true := by simp [qOf, h2, i34, h34]
          rw [e] at tail5
          (try simp (maxSteps := 1000000) (dsimp := false) (disch := (first | omega | (simp only [okR]; done) | (simp only [sizeR] <;> omega) | fail)) only [↓preR, postR, ↓w_stop, Nat.reduceEqDiff, Nat.reduceAdd, Nat.reduceSub, Nat.reduceMul, Int.reduceNeg, Nat.reduceLT, Int.reduceToNat, Nat.reduceLeDiff, Nat.sub_zero, hgd])
          exact tail5
        · have e : qOf s[j] way = false := by simp [qOf, h2]
          rw [e] at tail5
          (try simp (maxSteps := 1000000) (dsimp := false) (disch := (first | omega | (simp only [okR]; done) | (simp only [sizeR] <;> omega) | fail)) only [↓preR, postR, ↓w_stop, Nat.reduceEqDiff, Nat.reduceAdd, Nat.reduceSub, Nat.reduceMul, Int.reduceNeg, Nat.reduceLT, Int.reduceToNat, Nat.reduceLeDiff, Nat.sub_zero, hgd])
          exact tail5
    clear hJ4
    have i36 := u8_eq (c := s[j]) (x := 36) (n := 36) rfl
    by_cases h36 : s[j].toNat = 36
    · have hsd : (s.drop (j + 1)).take (s.length - (j + 1)) = s.drop (j + 1) := List.take_of_length_le (by simp)
      have hdl : (s.drop (j + 1)).length = s.length - (j + 1) := List.length_drop
      have hnl := named_le (s.drop (j + 1))
      (try simp (maxSteps := 1000000) (dsimp := false) (disch := (first | omega | (simp only [okR]; done) | (simp only [sizeR] <;> omega) | fail)) only [↓preR, postR, ↓w_stop, Nat.reduceEqDiff, Nat.reduceAdd, Nat.reduceSub, Nat.reduceMul, Int.reduceNeg, Nat.reduceLT, Int.reduceToNat, Nat.reduceLeDiff, Nat.sub_zero, hgd, hsd])
      refine qnamed_c (by omega) ?_
      by_cases hz : 0 < namedN (s.drop (j + 1))
      · rw [if_pos ⟨i36.2 h36, hz⟩, List.drop_drop] at hr
        (try simp (maxSteps := 1000000) (dsimp := false) (disch := (first | omega | (simp only [okR]; done) | (simp only [sizeR] <;> omega) | fail)) only [↓preR, postR, ↓w_stop, Nat.reduceEqDiff, Nat.reduceAdd, Nat.reduceSub, Nat.reduceMul, Int.reduceNeg, Nat.reduceLT, Int.reduceToNat, Nat.reduceLeDiff, Nat.sub_zero, hsd])
        refine qnamed_c (by omega) ?_
        generalize hnn : namedN (s.drop (j + 1)) = m at *
        have hf2 := hf.add (p := varP ((s.drop (j + 1)).take m) way 0 false []) (m := 1 + m) (by simp only [varP, Pt.text, List.length_take]; omega) (by omega)
        have hje : ((j : Int) + 1 + (m : Int)).toNat = j + 1 + m := by omega
        have hsub : (s.drop (j + 1)).take (j + 1 + m - (j + 1)) = (s.drop (j + 1)).take m := by rw [show j + 1 + m - (j + 1) = m from by omega]
        (try simp (maxSteps := 1000000) (dsimp := false) (disch := (first | omega | (simp only [okR]; done) | (simp only [sizeR] <;> omega) | fail)) only [↓preR, postR, ↓w_stop, Nat.reduceEqDiff, Nat.reduceAdd, Nat.reduceSub, Nat.reduceMul, Int.reduceNeg, Nat.reduceLT, Int.reduceToNat, Nat.reduceLeDiff, Nat.sub_zero, hje, hsub, Nat.add_sub_cancel_left])
        refine qall_c hw ?_
        (try simp (maxSteps := 1000000) (dsimp := false) (disch := (first | omega | (simp only [okR]; done) | (simp only [sizeR] <;> omega) | fail)) only [↓preR, postR, ↓w_stop, Nat.reduceEqDiff, Nat.reduceAdd, Nat.reduceSub, Nat.reduceMul, Int.reduceNeg, Nat.reduceLT, Int.reduceToNat, Nat.reduceLeDiff, Nat.sub_zero])
        refine qadd_c (x := .mk 2 ((s.drop (j + 1)).take m) (withinB way) 0 false []) (v := .slice none 0 0) (leafOk (by rw [List.length_take]; unfold maxLen; omega) (by omega) (by omega)) (by have := hf.1; omega) (by have := hf.2; show txt o1 + ((s.drop (j + 1)).take m).length ≤ _; rw [List.length_take]; omega) h2 fun w s3 h3 => ?_
        (try simp (maxSteps := 1000000) (dsimp := false) (disch := (first | omega | (simp only [okR]; done) | (simp only [sizeR] <;> omega) | fail)) only [↓preR, postR, ↓w_stop, Nat.reduceEqDiff, Nat.reduceAdd, Nat.reduceSub, Nat.reduceMul, Int.reduceNeg, Nat.reduceLT, Int.reduceToNat, Nat.reduceLeDiff, Nat.sub_zero])
        refine hag _ _ _ ⟨X1, j + (1 + m), g, _, ?_, hX1, by omega, by omega, by omega, hf2, h3, ?_, rfl⟩ (by omega)
        · rw [show j + (1 + m) = j + 1 + m from by omega]; rfl
        · rw [← hr, show j + 1 + m = j + (1 + m) from by omega]
      · (try simp (maxSteps := 1000000) (dsimp := false) (disch := (first | omega | (simp only [okR]; done) | (simp only [sizeR] <;> omega) | fail)) only [↓preR, postR, ↓w_stop, Nat.reduceEqDiff, Nat.reduceAdd, Nat.reduceSub, Nat.reduceMul, Int.reduceNeg, Nat.reduceLT, Int.reduceToNat, Nat.reduceLeDiff, Nat.sub_zero])
        exact tail4 s2 (fun h => hz h.2) h2
    · (try simp (maxSteps := 1000000) (dsimp := false) (disch := (first | omega | (simp only [okR]; done) | (simp only [sizeR] <;> omega) | fail)) only [↓preR, postR, ↓w_stop, Nat.reduceEqDiff, Nat.reduceAdd, Nat.reduceSub, Nat.reduceMul, Int.reduceNeg, Nat.reduceLT, Int.reduceToNat, Nat.reduceLeDiff, Nat.sub_zero, hgd])
      exact tail4 s2 (fun h => h36 (i36.1 h.1)) h2
theorem qparse_c (h : Hs σ X R) (hk : WK X R k (wordW s 0)) (hs : s.length ≤ maxLen) : kCall Tryz.prog 7 [.string (bs s)] σ k := by
  unfold wordW at hk
  unfold maxLen at hs
  refine f7 ?_
  (try simp (maxSteps := 1000000) (dsimp := false) (disch := (first | omega | (simp only [okR]; done) | (simp only [sizeR] <;> omega) | fail)) only [↓preR, postR, ↓w_stop, Nat.reduceEqDiff, Nat.reduceAdd, Nat.reduceSub, Nat.reduceMul, Int.reduceNeg, Nat.reduceLT, Int.reduceToNat, Nat.reduceLeDiff, Nat.sub_zero, F7])
  refine join_now ?_
  by_cases hl : 4096 < s.length
  · rw [if_pos hl] at hk
    (try simp (maxSteps := 1000000) (dsimp := false) (disch := (first | omega | (simp only [okR]; done) | (simp only [sizeR] <;> omega) | fail)) only [↓preR, postR, ↓w_stop, Nat.reduceEqDiff, Nat.reduceAdd, Nat.reduceSub, Nat.reduceMul, Int.reduceNeg, Nat.reduceLT, Int.reduceToNat, Nat.reduceLeDiff, Nat.sub_zero])
    exact hk X _ (Ce.le_refl _) h
  · rw [if_neg hl] at hk
    (try simp (maxSteps := 1000000) (dsimp := false) (disch := (first | omega | (simp only [okR]; done) | (simp only [sizeR] <;> omega) | fail)) only [↓preR, postR, ↓w_stop, Nat.reduceEqDiff, Nat.reduceAdd, Nat.reduceSub, Nat.reduceMul, Int.reduceNeg, Nat.reduceLT, Int.reduceToNat, Nat.reduceLeDiff, Nat.sub_zero])
    refine qread_c (s.length + 1) (way := 0) (by omega) (by omega) (by omega) h ?_
    cases hr : rdP (s.length + 1) s 0 [] with
    | ok w =>
      rw [hr] at hk
      intro X' v s1 hX hv h1
      (try simp (maxSteps := 1000000) (dsimp := false) (disch := (first | omega | (simp only [okR]; done) | (simp only [sizeR] <;> omega) | fail)) only [↓preR, postR, ↓w_stop, Nat.reduceEqDiff, Nat.reduceAdd, Nat.reduceSub, Nat.reduceMul, Int.reduceNeg, Nat.reduceLT, Int.reduceToNat, Nat.reduceLeDiff, Nat.sub_zero])
      exact hk X' v _ hX hv h1
    | bad e =>
      rw [hr] at hk
      intro X' s1 hX h1
      (try simp (maxSteps := 1000000) (dsimp := false) (disch := (first | omega | (simp only [okR]; done) | (simp only [sizeR] <;> omega) | fail)) only [↓preR, postR, ↓w_stop, Nat.reduceEqDiff, Nat.reduceAdd, Nat.reduceSub, Nat.reduceMul, Int.reduceNeg, Nat.reduceLT, Int.reduceToNat, Nat.reduceLeDiff, Nat.sub_zero])
      exact hk X' _ hX h1
theorem qhere_c (h : Hs σ X R) (hk : WK X R k (wordW s 5)) (hs : s.length ≤ maxLen) : kCall Tryz.prog 9 [.string (bs s)] σ k := by
  unfold wordW at hk
  unfold maxLen at hs
  refine f9 ?_
  (try simp (maxSteps := 1000000) (dsimp := false) (disch := (first | omega | (simp only [okR]; done) | (simp only [sizeR] <;> omega) | fail)) only [↓preR, postR, ↓w_stop, Nat.reduceEqDiff, Nat.reduceAdd, Nat.reduceSub, Nat.reduceMul, Int.reduceNeg, Nat.reduceLT, Int.reduceToNat, Nat.reduceLeDiff, Nat.sub_zero, F9])
  refine join_now ?_
  by_cases hl : 4096 < s.length
  · rw [if_pos hl] at hk
    (try simp (maxSteps := 1000000) (dsimp := false) (disch := (first | omega | (simp only [okR]; done) | (simp only [sizeR] <;> omega) | fail)) only [↓preR, postR, ↓w_stop, Nat.reduceEqDiff, Nat.reduceAdd, Nat.reduceSub, Nat.reduceMul, Int.reduceNeg, Nat.reduceLT, Int.reduceToNat, Nat.reduceLeDiff, Nat.sub_zero])
    exact hk X _ (Ce.le_refl _) h
  · rw [if_neg hl] at hk
    (try simp (maxSteps := 1000000) (dsimp := false) (disch := (first | omega | (simp only [okR]; done) | (simp only [sizeR] <;> omega) | fail)) only [↓preR, postR, ↓w_stop, Nat.reduceEqDiff, Nat.reduceAdd, Nat.reduceSub, Nat.reduceMul, Int.reduceNeg, Nat.reduceLT, Int.reduceToNat, Nat.reduceLeDiff, Nat.sub_zero])
    refine qread_c (s.length + 1) (way := 5) (by omega) (by omega) (by omega) h ?_
    cases hr : rdP (s.length + 1) s 5 [] with
    | ok w =>
      rw [hr] at hk
      intro X' v s1 hX hv h1
      (try simp (maxSteps := 1000000) (dsimp := false) (disch := (first | omega | (simp only [okR]; done) | (simp only [sizeR] <;> omega) | fail)) only [↓preR, postR, ↓w_stop, Nat.reduceEqDiff, Nat.reduceAdd, Nat.reduceSub, Nat.reduceMul, Int.reduceNeg, Nat.reduceLT, Int.reduceToNat, Nat.reduceLeDiff, Nat.sub_zero])
      exact hk X' v _ hX hv h1
    | bad e =>
      rw [hr] at hk
      intro X' s1 hX h1
      (try simp (maxSteps := 1000000) (dsimp := false) (disch := (first | omega | (simp only [okR]; done) | (simp only [sizeR] <;> omega) | fail)) only [↓preR, postR, ↓w_stop, Nat.reduceEqDiff, Nat.reduceAdd, Nat.reduceSub, Nat.reduceMul, Int.reduceNeg, Nat.reduceLT, Int.reduceToNat, Nat.reduceLeDiff, Nat.sub_zero])
      exact hk X' _ hX h1
end
end Go.Proofs.YtmgdkoidgoihfaaGreatDoor

/- The law WordParses: which parts a word has, and which a text in place, or what is wrong. Conditions: as each theorem says. -/
namespace Go.Proofs.YtmgdkoidgoihfaaGreatDoor
open E Go.Lib
open Go.RowKit
set_option linter.unusedVariables false
set_option linter.unusedSimpArgs false
set_option maxHeartbeats 1000000
set_option maxRecDepth 20000

def WIs (r : WR) (w : List Pt) (e : Int) : Prop := match r with | .ok u => w = u ∧ e = 0 | .bad b => w = [] ∧ e = b
/-- What comes of a text that was read: a list, and what is wrong. -/
theorem wk_any {X : Ce} {R : List Ck} {k : Value → AS → Prop} {r : WR} (h : ∀ X' v (w : List Pt) (e : Int) σ', Ce.le X X' → RepL X' v w → WIs r w e → Hs σ' X' R → k (.tuple #[v, .int .i64 e]) σ') : WK X R k r := by
  cases r with
  | ok u => exact fun X' v σ' hX hv h1 => h X' v u 0 σ' hX hv ⟨rfl, rfl⟩ h1
  | bad e => exact fun X' σ' hX h1 => h X' _ [] e σ' hX ⟨none, 0, rfl, Nat.le_refl _, Nat.zero_le _, .inl rfl⟩ ⟨rfl, rfl⟩ h1
theorem wk_same {r : WR} {w u : List Pt} {e b : Int} (h1 : WIs r w e) (h2 : WIs r u b) : w = u ∧ e = b := by
  cases r with
  | ok x => exact ⟨h1.1.trans h2.1.symm, h1.2.trans h2.2.symm⟩
  | bad x => exact ⟨h1.1.trans h2.1.symm, h1.2.trans h2.2.symm⟩
theorem parses_law {σ : AS} {v0 : Value} {c : Ce} (h : Hs σ c []) (A0 : OV c (shOf Tryz.prog 8 9) v0) : kCall Tryz.prog 3 [v0] σ fun v _ => v = .bool true := by
  rw [show shOf Tryz.prog 8 9 = .str from by kernel_rfl] at A0
  obtain ⟨s, rfl, hs⟩ := arg_str A0
  refine f3 ?_
  have hs' := hs
  unfold maxLen at hs'
  (try simp (maxSteps := 1000000) (dsimp := false) (disch := (first | omega | (simp only [okR]; done) | (simp only [sizeR] <;> omega) | fail)) only [↓preR, postR, ↓w_stop, Nat.reduceEqDiff, Nat.reduceAdd, Nat.reduceSub, Nat.reduceMul, Int.reduceNeg, Nat.reduceLT, Int.reduceToNat, Nat.reduceLeDiff, Nat.sub_zero, F3])
  refine join_now ?_
  by_cases hl : 600 < s.length
  · (try simp (maxSteps := 1000000) (dsimp := false) (disch := (first | omega | (simp only [okR]; done) | (simp only [sizeR] <;> omega) | fail)) only [↓preR, postR, ↓w_stop, Nat.reduceEqDiff, Nat.reduceAdd, Nat.reduceSub, Nat.reduceMul, Int.reduceNeg, Nat.reduceLT, Int.reduceToNat, Nat.reduceLeDiff, Nat.sub_zero])
    refine awake_c h fun X' s1 _ h1 => ?_
    (try simp (maxSteps := 1000000) (dsimp := false) (disch := (first | omega | (simp only [okR]; done) | (simp only [sizeR] <;> omega) | fail)) only [↓preR, postR, ↓w_stop, Nat.reduceEqDiff, Nat.reduceAdd, Nat.reduceSub, Nat.reduceMul, Int.reduceNeg, Nat.reduceLT, Int.reduceToNat, Nat.reduceLeDiff, Nat.sub_zero])
  (try simp (maxSteps := 1000000) (dsimp := false) (disch := (first | omega | (simp only [okR]; done) | (simp only [sizeR] <;> omega) | fail)) only [↓preR, postR, ↓w_stop, Nat.reduceEqDiff, Nat.reduceAdd, Nat.reduceSub, Nat.reduceMul, Int.reduceNeg, Nat.reduceLT, Int.reduceToNat, Nat.reduceLeDiff, Nat.sub_zero])
  refine parse_c h (wk_any fun X1 u1 w1 e1 s1 x1 r1 k1 h1 => ?_) hs
  (try simp (maxSteps := 1000000) (dsimp := false) (disch := (first | omega | (simp only [okR]; done) | (simp only [sizeR] <;> omega) | fail)) only [↓preR, postR, ↓w_stop, Nat.reduceEqDiff, Nat.reduceAdd, Nat.reduceSub, Nat.reduceMul, Int.reduceNeg, Nat.reduceLT, Int.reduceToNat, Nat.reduceLeDiff, Nat.sub_zero])
  refine qparse_c h1 (wk_any fun X2 u2 w2 e2 s2 x2 r2 k2 h2 => ?_) hs
  (try simp (maxSteps := 1000000) (dsimp := false) (disch := (first | omega | (simp only [okR]; done) | (simp only [sizeR] <;> omega) | fail)) only [↓preR, postR, ↓w_stop, Nat.reduceEqDiff, Nat.reduceAdd, Nat.reduceSub, Nat.reduceMul, Int.reduceNeg, Nat.reduceLT, Int.reduceToNat, Nat.reduceLeDiff, Nat.sub_zero])
  refine here_c h2 (wk_any fun X3 u3 w3 e3 s3 x3 r3 k3 h3 => ?_) hs
  (try simp (maxSteps := 1000000) (dsimp := false) (disch := (first | omega | (simp only [okR]; done) | (simp only [sizeR] <;> omega) | fail)) only [↓preR, postR, ↓w_stop, Nat.reduceEqDiff, Nat.reduceAdd, Nat.reduceSub, Nat.reduceMul, Int.reduceNeg, Nat.reduceLT, Int.reduceToNat, Nat.reduceLeDiff, Nat.sub_zero])
  refine qhere_c h3 (wk_any fun X4 u4 w4 e4 s4 x4 r4 k4 h4 => ?_) hs
  obtain ⟨rfl, rfl⟩ := wk_same k1 k2
  obtain ⟨rfl, rfl⟩ := wk_same k3 k4
  have le1 : Ce.le X1 X4 := Ce.le_trans x2 (Ce.le_trans x3 x4)
  have le2 : Ce.le X2 X4 := Ce.le_trans x3 x4
  (try simp (maxSteps := 1000000) (dsimp := false) (disch := (first | omega | (simp only [okR]; done) | (simp only [sizeR] <;> omega) | fail)) only [↓preR, postR, ↓w_stop, Nat.reduceEqDiff, Nat.reduceAdd, Nat.reduceSub, Nat.reduceMul, Int.reduceNeg, Nat.reduceLT, Int.reduceToNat, Nat.reduceLeDiff, Nat.sub_zero])
  refine rsame_c _ (Nat.lt_succ_self _) (r1.mono le1) (r2.mono le2) h4 fun s5 h5 => ?_
  rw [eqW_refl]
  (try simp (maxSteps := 1000000) (dsimp := false) (disch := (first | omega | (simp only [okR]; done) | (simp only [sizeR] <;> omega) | fail)) only [↓preR, postR, ↓w_stop, Nat.reduceEqDiff, Nat.reduceAdd, Nat.reduceSub, Nat.reduceMul, Int.reduceNeg, Nat.reduceLT, Int.reduceToNat, Nat.reduceLeDiff, Nat.sub_zero])
  refine rsame_c _ (Nat.lt_succ_self _) (r3.mono x4) r4 h5 fun s6 h6 => ?_
  rw [eqW_refl]
  (try simp (maxSteps := 1000000) (dsimp := false) (disch := (first | omega | (simp only [okR]; done) | (simp only [sizeR] <;> omega) | fail)) only [↓preR, postR, ↓w_stop, Nat.reduceEqDiff, Nat.reduceAdd, Nat.reduceSub, Nat.reduceMul, Int.reduceNeg, Nat.reduceLT, Int.reduceToNat, Nat.reduceLeDiff, Nat.sub_zero])
  refine awake_c h6 fun X' s7 _ h7 => ?_
  (try simp (maxSteps := 1000000) (dsimp := false) (disch := (first | omega | (simp only [okR]; done) | (simp only [sizeR] <;> omega) | fail)) only [↓preR, postR, ↓w_stop, Nat.reduceEqDiff, Nat.reduceAdd, Nat.reduceSub, Nat.reduceMul, Int.reduceNeg, Nat.reduceLT, Int.reduceToNat, Nat.reduceLeDiff, Nat.sub_zero])
end Go.Proofs.YtmgdkoidgoihfaaGreatDoor
