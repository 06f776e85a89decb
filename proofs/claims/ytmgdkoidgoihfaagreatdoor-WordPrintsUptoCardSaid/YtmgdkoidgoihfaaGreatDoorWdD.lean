/- Words: the reader's calls. Conditions: as each theorem says. -/
import Derived.Test.YtmgdkoidgoihfaaGreatDoorWdB
import Derived.Test.YtmgdkoidgoihfaaGreatDoorOe
import Derived.Test.YtmgdkoidgoihfaaGreatDoorGd
import Derived.Test.YtmgdkoidgoihfaaGreatDoorPc
namespace Go.Proofs.YtmgdkoidgoihfaaGreatDoor
open E Go.Lib
open Go.RowKit
set_option linter.unusedVariables false
set_option linter.unusedSimpArgs false
set_option maxHeartbeats 1000000
set_option maxRecDepth 20000

/-- A reader: its parts, and what is wrong. -/
def Rdr (p : Nat) (out : List Pt) (e : Int) : Ck := Exs (α := Value) (fun _ => True) fun u => [Cel p [u, .int .i64 e], E.Own (α := Pt) u out]
abbrev ptV (p : Pt) (v : Value) : Value := .agg (ptC p v).toArray
theorem posB_has (c : UInt8) : ∀ l : Str, (posB c l).isSome = l.contains c
  | [] => rfl
  | a :: l => by
    have e : posB c (a :: l) = if a = c then some 0 else (posB c l).map (· + 1) := rfl
    rw [e, List.contains_cons, ← posB_has c l]
    by_cases h : a = c
    · subst h; simp
    · have : (c == a) = false := by simpa using fun e => h e.symm
      rw [if_neg h, this, Bool.false_or, Option.isSome_map]
section
variable {σ σ' : AS} {X : Ce} {R : List Ck} {k : Value → AS → Prop} {p : Nat} {e : Int} {out : List Pt} {s t : Str} {c : UInt8} {way : Nat} {q : Bool}
theorem within_c (hw : way ≤ 5) (hk : k (.bool (withinB way)) σ) : kCall Tryz.prog 25 [.int .i64 way] σ k := by
  refine f25 ?_
  have : way = 0 ∨ way = 1 ∨ way = 2 ∨ way = 3 ∨ way = 4 ∨ way = 5 := by omega
  rcases this with rfl | rfl | rfl | rfl | rfl | rfl <;> ((try simp (maxSteps := 1000000) (dsimp := false) (disch := (first | omega | (simp only [okR]; done) | (simp only [sizeR] <;> omega) | fail)) only [↓preR, postR, ↓w_join, Nat.reduceEqDiff, Nat.reduceAdd, Nat.reduceSub, Nat.reduceMul, Int.reduceNeg, Nat.reduceLT, Int.reduceToNat, Nat.reduceLeDiff, Nat.sub_zero, F25]); exact hk)
theorem among_c {set : Str} (h : Hs σ X R) (hk : ∀ σ', Hs σ' X R → k (.bool (set.contains c)) σ') {m : Int} (hm : m = c.toNat) (K : Nat) (hK : ∀ σ1 k1, kCall Tryz.prog 72 [.string (bs set)] σ1 (fun v3 s1 => kCallv Tryz.prog v3 [.int .u8 m] s1 k1) → kCall Tryz.prog K [.int .u8 m] σ1 k1) : kCall Tryz.prog K [.int .u8 m] σ k := by
  subst hm
  refine hK _ _ ?_
  refine f72 ?_
  have h1 := h.new (cs := [.string (bs set)])
  (simp (maxSteps := 1000000) (dsimp := false) (disch := (first | omega | (simp only [okR]; done) | (simp only [sizeR] <;> omega) | fail)) only [↓preR, postR, ↓w_join, Nat.reduceEqDiff, Nat.reduceAdd, Nat.reduceSub, Nat.reduceMul, Int.reduceNeg, Nat.reduceLT, Int.reduceToNat, Nat.reduceLeDiff, Nat.sub_zero, F72])
  refine ⟨k89_ok, ?_⟩
  refine f89 ?_
  (simp (maxSteps := 1000000) (dsimp := false) (disch := (first | omega | (simp only [okR]; done) | (simp only [sizeR] <;> omega) | fail)) only [↓preR, postR, ↓w_join, Nat.reduceEqDiff, Nat.reduceAdd, Nat.reduceSub, Nat.reduceMul, Int.reduceNeg, Nat.reduceLT, Int.reduceToNat, Nat.reduceLeDiff, Nat.sub_zero, F89, h1.obj])
  refine idx_c (c := c) rfl ?_
  rw [← posB_has] at hk
  cases hp : posB c set with
  | none =>
    rw [hp] at hk
    (simp (maxSteps := 1000000) (dsimp := false) (disch := (first | omega | (simp only [okR]; done) | (simp only [sizeR] <;> omega) | fail)) only [↓preR, postR, ↓w_join, Nat.reduceEqDiff, Nat.reduceAdd, Nat.reduceSub, Nat.reduceMul, Int.reduceNeg, Nat.reduceLT, Int.reduceToNat, Nat.reduceLeDiff, Nat.sub_zero])
    exact hk _ h1.drop
  | some n =>
    rw [hp] at hk
    (simp (maxSteps := 1000000) (dsimp := false) (disch := (first | omega | (simp only [okR]; done) | (simp only [sizeR] <;> omega) | fail)) only [↓preR, postR, ↓w_join, Nat.reduceEqDiff, Nat.reduceAdd, Nat.reduceSub, Nat.reduceMul, Int.reduceNeg, Nat.reduceLT, Int.reduceToNat, Nat.reduceLeDiff, Nat.sub_zero])
    exact hk _ h1.drop
theorem meta_c {m : Int} (hm : m = c.toNat) (h : Hs σ X R) (hk : ∀ σ', Hs σ' X R → k (.bool (metaB c)) σ') : kCall Tryz.prog 47 [.int .u8 m] σ k := by
  refine among_c h hk hm _ fun σ1 k1 h1 => ?_
  refine f47 ?_
  (simp (maxSteps := 1000000) (dsimp := false) (disch := (first | omega | (simp only [okR]; done) | (simp only [sizeR] <;> omega) | fail)) only [↓preR, postR, ↓w_join, Nat.reduceEqDiff, Nat.reduceAdd, Nat.reduceSub, Nat.reduceMul, Int.reduceNeg, Nat.reduceLT, Int.reduceToNat, Nat.reduceLeDiff, Nat.sub_zero, F47])
  exact h1
/-- The first bytes are gone, if they are there. -/
theorem cutp_c (hs : s.length ≤ maxLen) (hk : k (.tuple #[.string (bs (if isPre [c] s = true then s.drop 1 else s)), .bool (isPre [c] s)]) σ) : kCall Tryz.prog 67 [.string (bs s), .string (bs [c])] σ k := by
  unfold maxLen at hs
  refine f67 ?_
  (simp (maxSteps := 1000000) (dsimp := false) (disch := (first | omega | (simp only [okR]; done) | (simp only [sizeR] <;> omega) | fail)) only [↓preR, postR, ↓w_join, Nat.reduceEqDiff, Nat.reduceAdd, Nat.reduceSub, Nat.reduceMul, Int.reduceNeg, Nat.reduceLT, Int.reduceToNat, Nat.reduceLeDiff, Nat.sub_zero, F67])
  refine f87 ?_
  (try simp (maxSteps := 1000000) (dsimp := false) (disch := (first | omega | (simp only [okR]; done) | (simp only [sizeR] <;> omega) | fail)) only [↓preR, postR, ↓w_stop, Nat.reduceEqDiff, Nat.reduceAdd, Nat.reduceSub, Nat.reduceMul, Int.reduceNeg, Nat.reduceLT, Int.reduceToNat, Nat.reduceLeDiff, Nat.sub_zero, F87])
  refine join_now ?_
  have h1 : isPre [c] s = decide (s.take 1 = [c]) := rfl
  rw [h1] at hk
  refine f88 ?_
  by_cases h : 1 ≤ s.length
  · by_cases h2 : s.take 1 = [c]
    · have h2' := eq_true h2
      simp only [h2, decide_true, if_true] at hk
      (try simp (maxSteps := 1000000) (dsimp := false) (disch := (first | omega | (simp only [okR]; done) | (simp only [sizeR] <;> omega) | fail)) only [↓preR, postR, ↓w_join, Nat.reduceEqDiff, Nat.reduceAdd, Nat.reduceSub, Nat.reduceMul, Int.reduceNeg, Nat.reduceLT, Int.reduceToNat, Nat.reduceLeDiff, Nat.sub_zero, F88, h, h2'])
      have e : (s.drop 1).take (s.length - 1) = s.drop 1 := List.take_of_length_le (by simp)
      first | exact hk | (rw [e]; exact hk)
    · have h2' := eq_false h2
      simp only [h2, decide_false, Bool.false_eq_true, if_false] at hk
      (try simp (maxSteps := 1000000) (dsimp := false) (disch := (first | omega | (simp only [okR]; done) | (simp only [sizeR] <;> omega) | fail)) only [↓preR, postR, ↓w_join, Nat.reduceEqDiff, Nat.reduceAdd, Nat.reduceSub, Nat.reduceMul, Int.reduceNeg, Nat.reduceLT, Int.reduceToNat, Nat.reduceLeDiff, Nat.sub_zero, F88, h, h2'])
      exact hk
  · have h2 : ¬ s.take 1 = [c] := fun e => by have := congrArg List.length e; rw [List.length_take] at this; simp at this; omega
    simp only [h2, decide_false, Bool.false_eq_true, if_false] at hk
    (try simp (maxSteps := 1000000) (dsimp := false) (disch := (first | omega | (simp only [okR]; done) | (simp only [sizeR] <;> omega) | fail)) only [↓preR, postR, ↓w_join, Nat.reduceEqDiff, Nat.reduceAdd, Nat.reduceSub, Nat.reduceMul, Int.reduceNeg, Nat.reduceLT, Int.reduceToNat, Nat.reduceLeDiff, Nat.sub_zero, F88])
    exact hk
theorem add_c {p : Nat} {x : Pt} {v : Value} (hx : RpPt X x (ptC x v)) (hl : out.length ≤ 1000000) (ht : txt out + x.text.length ≤ 1000000) (h : Hs σ X (Rdr p out e :: R)) (hk : ∀ w σ', Hs σ' X (Rdr p (addP out x) e :: R) → k w σ') :
    kCall Tryz.prog 40 [pv p, ptV x v] σ k := by
  obtain ⟨va, vn, vc, rfl⟩ := hx.val
  obtain ⟨u, _, h⟩ := h.opened
  have h : Hs σ X (Cel p [u, .int .i64 e] :: E.Own (α := Pt) u out :: R) := h
  obtain ⟨ux, uc, rfl, huc⟩ := h.own1
  refine f40 ?_
  have h1 := h.new (cs := ptC x (.slice va vn vc))
  have e1 := h1.obj
  have e2 := h1.obj1
  (try simp (maxSteps := 1000000) (dsimp := false) (disch := (first | omega | (simp only [okR]; done) | (simp only [sizeR] <;> omega) | fail)) only [↓preR, postR, ↓w_stop, Nat.reduceEqDiff, Nat.reduceAdd, Nat.reduceSub, Nat.reduceMul, Int.reduceNeg, Nat.reduceLT, Int.reduceToNat, Nat.reduceLeDiff, Nat.sub_zero, F40])
  generalize AS.new σ _ = s1 at h1 e1 e2 ⊢
  generalize σ.n = q at h1 e1 ⊢
  clear h
  refine join_by fun J hJ => ?_
  have tail : addP out x = out ++ [x] → J [] s1 := by
    intro ha
    refine hJ _ _ ?_
    clear hJ
    have hz := h1.new (cs := [.int .i64 0, .string (bs []), .bool false, .int .i64 0, .bool false, .slice none 0 0])
    have z1 := hz.obj1
    have z2 := hz.obj2
    (try simp (maxSteps := 1000000) (dsimp := false) (disch := (first | omega | (simp only [okR]; done) | (simp only [sizeR] <;> omega) | fail)) only [↓preR, postR, ↓w_stop, Nat.reduceEqDiff, Nat.reduceAdd, Nat.reduceSub, Nat.reduceMul, Int.reduceNeg, Nat.reduceLT, Int.reduceToNat, Nat.reduceLeDiff, Nat.sub_zero, e1, e2, z1, z2])
    refine push_by (a := Pt.mk 0 [] false 0 false []) (h1.front 2 rfl) (e := 37) (bytes := 72) (by kernel_rfl) (by kernel_rfl) (RpPt.leaf (by simp [Pt.text, maxLen]) (by simp [Pt.kind, inI64]) (by simp [Pt.op, inI64]) rfl) (by omega) (by unfold maxLen; omega) fun v' s2 h2 => ?_
    obtain ⟨g, c, ys, rfl, hc1, hc2, hm, hle, hset⟩ := Own.elem (n := out.length) h2 (by simp)
    have h3 := hset x _ hx
    rw [List.set_append_right _ _ (Nat.le_refl _), Nat.sub_self, List.set_cons_zero, ← ha] at h3
    have hlen : ((out ++ [Pt.mk 0 [] false 0 false []]).length : Int) = (out.length : Int) + 1 := by simp
    have hle' : out.length * 6 + 6 ≤ ys.length := hle
    have e3 := (h2.front 2 rfl).obj
    have e4 := (h3.front 2 rfl).obj
    have h4 := (((h3.front 2 rfl).put (cs' := [.slice (some ⟨g, 0, none⟩) (out ++ [Pt.mk 0 [] false 0 false []]).length c, .int .i64 e])))
    have fin : ∀ s3, Hs s3 X (Cel p [.slice (some ⟨g, 0, none⟩) (out ++ [Pt.mk 0 [] false 0 false []]).length c, .int .i64 e] :: E.Own (α := Pt) (.slice (some ⟨g, 0, none⟩) (out ++ [Pt.mk 0 [] false 0 false []]).length c) (addP out x) :: Cel q (ptC x (.slice va vn vc)) :: R) → k undef s3 := by
      intro s3 h5
      refine hk _ _ (Hs.closed (f := fun u => [Cel p [u, .int .i64 e], E.Own (α := Pt) u (addP out x)]) (.slice (some ⟨g, 0, none⟩) (out ++ [Pt.mk 0 [] false 0 false []]).length c) trivial ?_)
      exact (h5.front 2 rfl).drop
    have e4' : (s2.put g (.cells (ys.take (out.length * 6) ++ ptC x (.slice va vn vc) ++ ys.drop (out.length * 6 + 6)))).m p = some (.cells [.slice ux out.length uc, .int .i64 e]) := e4
    (try simp (maxSteps := 1000000) (dsimp := false) (disch := (first | omega | (simp only [okR]; done) | (simp only [sizeR] <;> omega) | fail)) only [↓preR, postR, ↓w_stop, Nat.reduceEqDiff, Nat.reduceAdd, Nat.reduceSub, Nat.reduceMul, Int.reduceNeg, Nat.reduceLT, Int.reduceToNat, Nat.reduceLeDiff, Nat.sub_zero])
    refine alt_i ?_ ?_
    · (try simp (maxSteps := 1000000) (dsimp := false) (disch := (first | omega | (simp only [okR]; done) | (simp only [sizeR] <;> omega) | fail)) only [↓preR, postR, ↓w_stop, Nat.reduceEqDiff, Nat.reduceAdd, Nat.reduceSub, Nat.reduceMul, Int.reduceNeg, Nat.reduceLT, Int.reduceToNat, Nat.reduceLeDiff, Nat.sub_zero, hm, hle', e4'])
      exact fin _ h4
    · have h5 := (h2.front 2 rfl).put (cs' := [.slice (some ⟨g, 0, none⟩) (out ++ [Pt.mk 0 [] false 0 false []]).length c, .int .i64 e])
      obtain ⟨g', c', ys', e5, _, _, hm', hl2, hset'⟩ := Own.elem (n := out.length) h5.swap (by simp)
      injection e5 with e5 _ _
      injection e5 with e5
      injection e5 with e5 _ _
      subst e5
      have hl2' : out.length * 6 + 6 ≤ ys'.length := hl2
      have h6 := hset' x _ hx
      rw [List.set_append_right _ _ (Nat.le_refl _), Nat.sub_self, List.set_cons_zero, ← ha] at h6
      (try simp (maxSteps := 1000000) (dsimp := false) (disch := (first | omega | (simp only [okR]; done) | (simp only [sizeR] <;> omega) | fail)) only [↓preR, postR, ↓w_stop, Nat.reduceEqDiff, Nat.reduceAdd, Nat.reduceSub, Nat.reduceMul, Int.reduceNeg, Nat.reduceLT, Int.reduceToNat, Nat.reduceLeDiff, Nat.sub_zero, e3, hm', hl2'])
      exact fin _ h6.swap
  by_cases k1 : x.kind = 1
  rotate_left
  · (try simp (maxSteps := 1000000) (dsimp := false) (disch := (first | omega | (simp only [okR]; done) | (simp only [sizeR] <;> omega) | fail)) only [↓preR, postR, ↓w_stop, Nat.reduceEqDiff, Nat.reduceAdd, Nat.reduceSub, Nat.reduceMul, Int.reduceNeg, Nat.reduceLT, Int.reduceToNat, Nat.reduceLeDiff, Nat.sub_zero, e1, e2, k1])
    refine tail ?_
    unfold addP
    split
    · rw [if_neg (fun h => k1 h.1)]
    · rfl
  by_cases h0 : out.length = 0
  · have h0' : ¬ (0 : Int) ≤ (out.length : Int) - 1 := by omega
    (try simp (maxSteps := 1000000) (dsimp := false) (disch := (first | omega | (simp only [okR]; done) | (simp only [sizeR] <;> omega) | fail)) only [↓preR, postR, ↓w_stop, Nat.reduceEqDiff, Nat.reduceAdd, Nat.reduceSub, Nat.reduceMul, Int.reduceNeg, Nat.reduceLT, Int.reduceToNat, Nat.reduceLeDiff, Nat.sub_zero, e1, e2, k1, h0'])
    refine tail ?_
    have : out = [] := List.eq_nil_of_length_eq_zero h0
    subst this
    rfl
  have hn : out.length - 1 < out.length := by omega
  obtain ⟨g, c, cs, ys, eu, hc1, hc2, hr, hm, hle, hat, hset⟩ := Own.cell (n := out.length - 1) (h1.front 2 rfl) hn
  injection eu with eu _ _
  subst eu
  obtain ⟨w, rfl, g1, g2, g3, g4⟩ := RpPt.get (show RpPt X _ _ from hr)
  have y0 : ys[(out.length - 1) * 6]? = some (.int .i64 (out[out.length - 1]).kind) := hat 0 _ rfl
  have y1 : ys[(out.length - 1) * 6 + 1]? = some (.string (bs (out[out.length - 1]).text)) := hat 1 _ rfl
  have y2 : ys[(out.length - 1) * 6 + 2]? = some (.bool (out[out.length - 1]).quote) := hat 2 _ rfl
  have hle2 : (out.length - 1 + 1) * 6 ≤ ys.length := hle
  have hgt : out[out.length - 1]? = some out[out.length - 1] := List.getElem?_eq_getElem hn
  have htx : (out[out.length - 1]).text.length ≤ txt out := by
    have key : ∀ (l : List Pt) (i : Nat) (hi : i < l.length), (l[i]).text.length ≤ txt l := by
      intro l
      induction l with
      | nil => intro i hi; simp at hi
      | cons a l ih =>
        intro i hi
        cases i with
        | zero => simp [txt]
        | succ i => have := ih i (by simpa using hi); simp only [List.getElem_cons_succ, txt]; omega
    exact key _ _ _
  generalize hll : out[out.length - 1] = l at *
  by_cases k2 : l.kind = 1
  rotate_left
  · (try simp (maxSteps := 1000000) (dsimp := false) (disch := (first | omega | (simp only [okR]; done) | (simp only [sizeR] <;> omega) | fail)) only [↓preR, postR, ↓w_stop, Nat.reduceEqDiff, Nat.reduceAdd, Nat.reduceSub, Nat.reduceMul, Int.reduceNeg, Nat.reduceLT, Int.reduceToNat, Nat.reduceLeDiff, Nat.sub_zero, e1, e2, k1, hm, y0, k2])
    refine tail ?_
    unfold addP
    rw [hgt]
    simp only [k2, false_and, and_false, if_false]
  by_cases k3 : l.quote = x.quote
  rotate_left
  · have k3' : (l.quote == x.quote) = false := by simpa using k3
    (try simp (maxSteps := 1000000) (dsimp := false) (disch := (first | omega | (simp only [okR]; done) | (simp only [sizeR] <;> omega) | fail)) only [↓preR, postR, ↓w_stop, Nat.reduceEqDiff, Nat.reduceAdd, Nat.reduceSub, Nat.reduceMul, Int.reduceNeg, Nat.reduceLT, Int.reduceToNat, Nat.reduceLeDiff, Nat.sub_zero, e1, e2, k1, hm, y0, y2, k2, k3'])
    refine tail ?_
    unfold addP
    rw [hgt]
    simp only [k3, and_false, if_false]
  have k3' : (l.quote == x.quote) = true := by simpa using k3
  have h5 := hset 1 (.string (bs (l.text ++ x.text))) (l.more x.text) (by decide) (RpPt.made (p := l.more x.text) (v := w) (by show (l.text ++ x.text).length ≤ maxLen; rw [List.length_append]; unfold maxLen; omega) g2 g3 g4)
  (try simp (maxSteps := 1000000) (dsimp := false) (disch := (first | omega | (simp only [okR]; done) | (simp only [sizeR] <;> omega) | fail)) only [↓preR, postR, ↓w_stop, Nat.reduceEqDiff, Nat.reduceAdd, Nat.reduceSub, Nat.reduceMul, Int.reduceNeg, Nat.reduceLT, Int.reduceToNat, Nat.reduceLeDiff, Nat.sub_zero, e1, e2, k1, hm, y0, y1, y2, k2, k3'])
  have ha : addP out x = out.set (out.length - 1) (l.more x.text) := by
    unfold addP
    rw [hgt]
    simp only [k1, k2, k3, and_self, if_true]
  rw [ha] at hk
  refine hk _ _ (Hs.closed (f := fun u => [Cel p [u, .int .i64 e], E.Own (α := Pt) u (out.set (out.length - 1) (l.more x.text))]) (.slice (some ⟨g, 0, none⟩) out.length uc) trivial ?_)
  exact (h5.front 2 rfl).front 2 rfl |>.drop
end
end Go.Proofs.YtmgdkoidgoihfaaGreatDoor

/- Words: what is added for a pair, a run, a name. Conditions: as each theorem says. -/
namespace Go.Proofs.YtmgdkoidgoihfaaGreatDoor
open E Go.Lib
open Go.RowKit
set_option linter.unusedVariables false
set_option linter.unusedSimpArgs false
set_option maxHeartbeats 1000000
set_option maxRecDepth 20000

theorem u8_eq {c x : UInt8} {n : Nat} (hn : n = x.toNat) : c = x ↔ c.toNat = n := by
  subst hn; exact UInt8.toNat_inj.symm
theorem litOk {X : Ce} {s : Str} {q : Bool} (hs : s.length ≤ maxLen) : RpPt X (litP s q) (ptC (litP s q) (.slice none 0 0)) := RpPt.leaf hs (by show inI64 1; unfold inI64; omega) (by show inI64 0; unfold inI64; omega) rfl
theorem leafOk {X : Ce} {s : Str} {q c : Bool} {k o : Int} (hs : s.length ≤ maxLen) (hk : 0 ≤ k ∧ k ≤ 10) (ho : 0 ≤ o ∧ o ≤ 10) : RpPt X (.mk k s q o c []) (ptC (.mk k s q o c []) (.slice none 0 0)) := RpPt.leaf hs (by show inI64 k; unfold inI64; omega) (by show inI64 o; unfold inI64; omega) rfl
section
variable {σ σ' : AS} {X : Ce} {R : List Ck} {k : Value → AS → Prop} {p n : Nat} {e : Int} {out : List Pt} {s t : Str} {c : UInt8} {way : Nat} {q : Bool}
theorem lit_c (hf : FitW out n) (hn : n + s.length ≤ 1000000) (h : Hs σ X (Rdr p out e :: R)) (hk : ∀ w σ', Hs σ' X (Rdr p (addP out (litP s q)) e :: R) → k w σ') :
    kCall Tryz.prog 43 [pv p, .string (bs s), .bool q] σ k := by
  refine f43 ?_
  (simp (maxSteps := 1000000) (dsimp := false) (disch := (first | omega | (simp only [okR]; done) | (simp only [sizeR] <;> omega) | fail)) only [↓preR, postR, ↓w_join, Nat.reduceEqDiff, Nat.reduceAdd, Nat.reduceSub, Nat.reduceMul, Int.reduceNeg, Nat.reduceLT, Int.reduceToNat, Nat.reduceLeDiff, Nat.sub_zero, F43])
  refine add_c (x := litP s q) (v := .slice none 0 0) (litOk (by unfold maxLen; omega)) (by have := hf.1; omega) (by have := hf.2; show txt out + s.length ≤ _; omega) h fun w σ1 h1 => ?_
  exact hk _ _ h1
theorem pair_c (hf : FitW out n) (hn : n ≤ 900000) (hw : way ≤ 5) (ht : t = [92] ∨ ∃ c, t = [92, c]) (h : Hs σ X (Rdr p out e :: R)) (hk : ∀ w σ', Hs σ' X (Rdr p (pairP t way out) e :: R) → k w σ') :
    kCall Tryz.prog 42 [pv p, .string (bs t), .int .i64 way] σ k := by
  refine f42 ?_
  rcases ht with rfl | ⟨c, rfl⟩
  · (simp (maxSteps := 1000000) (dsimp := false) (disch := (first | omega | (simp only [okR]; done) | (simp only [sizeR] <;> omega) | fail)) only [↓preR, postR, ↓w_join, Nat.reduceEqDiff, Nat.reduceAdd, Nat.reduceSub, Nat.reduceMul, Int.reduceNeg, Nat.reduceLT, Int.reduceToNat, Nat.reduceLeDiff, Nat.sub_zero, F42])
    exact lit_c hf (by simp; omega) h fun w σ1 h1 => hk _ _ h1
  have hne : ([92, c] = ([92] : Str)) = False := by simp
  have i10 := u8_eq (c := c) (x := 10) (n := 10) rfl
  have i34 := u8_eq (c := c) (x := 34) (n := 34) rfl
  have i125 := u8_eq (c := c) (x := 125) (n := 125) rfl
  have hp : pairP [92, c] way out = if c = 10 then out else if (withinB way && (decide (c = 34 ∧ way = 5) || (!([36, 34, 92, 96] : Str).contains c && !decide (c = 125 ∧ way = 3)))) = true then addP out (litP [92, c] true) else addP out (litP [c] true) := rfl
  rw [hp] at hk
  by_cases h10 : c.toNat = 10
  · rw [if_pos (i10.2 h10)] at hk
    (simp (maxSteps := 1000000) (dsimp := false) (disch := (first | omega | (simp only [okR]; done) | (simp only [sizeR] <;> omega) | fail)) only [↓preR, postR, ↓w_join, Nat.reduceEqDiff, Nat.reduceAdd, Nat.reduceSub, Nat.reduceMul, Int.reduceNeg, Nat.reduceLT, Int.reduceToNat, Nat.reduceLeDiff, Nat.sub_zero, F42, hne, Option.getD_some])
    exact hk _ _ h
  rw [if_neg (fun h => h10 (i10.1 h))] at hk
  (simp (maxSteps := 1000000) (dsimp := false) (disch := (first | omega | (simp only [okR]; done) | (simp only [sizeR] <;> omega) | fail)) only [↓preR, postR, ↓w_join, Nat.reduceEqDiff, Nat.reduceAdd, Nat.reduceSub, Nat.reduceMul, Int.reduceNeg, Nat.reduceLT, Int.reduceToNat, Nat.reduceLeDiff, Nat.sub_zero, F42, hne, Option.getD_some])
  refine within_c hw ?_
  have yes : (∀ w σ', Hs σ' X (Rdr p (addP out (litP [92, c] true)) e :: R) → k w σ') → kCall Tryz.prog 43 [pv p, .string (bs [92, c]), .bool true] σ fun v s => k undef s := fun hk => lit_c hf (by simp; omega) h fun w σ1 h1 => hk _ _ h1
  have no : (∀ w σ', Hs σ' X (Rdr p (addP out (litP [c] true)) e :: R) → k w σ') → kCall Tryz.prog 43 [pv p, .string (bs [c]), .bool true] σ fun v s => k undef s := fun hk => lit_c hf (by simp; omega) h fun w σ1 h1 => hk _ _ h1
  cases hb : withinB way with
  | false =>
    rw [hb] at hk
    simp only [Bool.false_and, Bool.false_eq_true, if_false] at hk
    (try simp (maxSteps := 1000000) (dsimp := false) (disch := (first | omega | (simp only [okR]; done) | (simp only [sizeR] <;> omega) | fail)) only [↓preR, postR, ↓w_join, Nat.reduceEqDiff, Nat.reduceAdd, Nat.reduceSub, Nat.reduceMul, Int.reduceNeg, Nat.reduceLT, Int.reduceToNat, Nat.reduceLeDiff, Nat.sub_zero])
    exact no hk
  | true =>
    rw [hb] at hk
    simp only [Bool.true_and] at hk
    have hidx : ∀ k1 : Value → AS → Prop, k1 (.int .i64 (match posB c ([36, 34, 92, 96] : Str) with | some n => (n : Int) | none => -1)) σ → kCall Tryz.prog 39 [.string (bs [36, 34, 92, 96]), .int .u8 c.toNat] σ k1 := fun k1 hk1 => idx_c rfl hk1
    have hps := posB_has c [36, 34, 92, 96]
    have rest : ¬ (c = 34 ∧ way = 5) → True := fun _ => trivial
    by_cases h34 : c.toNat = 34
    · by_cases h5 : way = 5
      · have : decide (c = 34 ∧ way = 5) = true := by simp [i34.2 h34, h5]
        rw [this] at hk
        simp only [Bool.true_or, if_true] at hk
        (try simp (maxSteps := 1000000) (dsimp := false) (disch := (first | omega | (simp only [okR]; done) | (simp only [sizeR] <;> omega) | fail)) only [↓preR, postR, ↓w_join, Nat.reduceEqDiff, Nat.reduceAdd, Nat.reduceSub, Nat.reduceMul, Int.reduceNeg, Nat.reduceLT, Int.reduceToNat, Nat.reduceLeDiff, Nat.sub_zero, Option.getD_some])
        exact yes hk
      · have e1 : decide (c = 34 ∧ way = 5) = false := by simp [h5]
        have e2 : ([36, 34, 92, 96] : Str).contains c = true := by rw [i34.2 h34]; decide
        rw [e1, e2] at hk
        simp only [Bool.false_or, Bool.not_true, Bool.false_and, Bool.false_eq_true, if_false] at hk
        (try simp (maxSteps := 1000000) (dsimp := false) (disch := (first | omega | (simp only [okR]; done) | (simp only [sizeR] <;> omega) | fail)) only [↓preR, postR, ↓w_join, Nat.reduceEqDiff, Nat.reduceAdd, Nat.reduceSub, Nat.reduceMul, Int.reduceNeg, Nat.reduceLT, Int.reduceToNat, Nat.reduceLeDiff, Nat.sub_zero, Option.getD_some])
        refine hidx _ ?_
        rw [e2] at hps
        cases hpo : posB c [36, 34, 92, 96] with
        | none => rw [hpo] at hps; cases hps
        | some m =>
          (try simp (maxSteps := 1000000) (dsimp := false) (disch := (first | omega | (simp only [okR]; done) | (simp only [sizeR] <;> omega) | fail)) only [↓preR, postR, ↓w_join, Nat.reduceEqDiff, Nat.reduceAdd, Nat.reduceSub, Nat.reduceMul, Int.reduceNeg, Nat.reduceLT, Int.reduceToNat, Nat.reduceLeDiff, Nat.sub_zero])
          exact no hk
    · have e1 : decide (c = 34 ∧ way = 5) = false := by simp [i34, h34]
      rw [e1] at hk
      simp only [Bool.false_or] at hk
      (try simp (maxSteps := 1000000) (dsimp := false) (disch := (first | omega | (simp only [okR]; done) | (simp only [sizeR] <;> omega) | fail)) only [↓preR, postR, ↓w_join, Nat.reduceEqDiff, Nat.reduceAdd, Nat.reduceSub, Nat.reduceMul, Int.reduceNeg, Nat.reduceLT, Int.reduceToNat, Nat.reduceLeDiff, Nat.sub_zero, Option.getD_some])
      refine hidx _ ?_
      cases hpo : posB c [36, 34, 92, 96] with
      | some m =>
        rw [hpo] at hps
        rw [← hps] at hk
        simp only [Option.isSome_some, Bool.not_true, Bool.false_and, Bool.false_eq_true, if_false] at hk
        (try simp (maxSteps := 1000000) (dsimp := false) (disch := (first | omega | (simp only [okR]; done) | (simp only [sizeR] <;> omega) | fail)) only [↓preR, postR, ↓w_join, Nat.reduceEqDiff, Nat.reduceAdd, Nat.reduceSub, Nat.reduceMul, Int.reduceNeg, Nat.reduceLT, Int.reduceToNat, Nat.reduceLeDiff, Nat.sub_zero])
        exact no hk
      | none =>
        rw [hpo] at hps
        rw [← hps] at hk
        simp only [Option.isSome_none, Bool.not_false, Bool.true_and] at hk
        by_cases h125 : c.toNat = 125
        · by_cases h3 : way = 3
          · have e3 : decide (c = 125 ∧ way = 3) = true := by simp [i125.2 h125, h3]
            rw [e3] at hk
            simp only [Bool.not_true, Bool.false_eq_true, if_false] at hk
            (try simp (maxSteps := 1000000) (dsimp := false) (disch := (first | omega | (simp only [okR]; done) | (simp only [sizeR] <;> omega) | fail)) only [↓preR, postR, ↓w_join, Nat.reduceEqDiff, Nat.reduceAdd, Nat.reduceSub, Nat.reduceMul, Int.reduceNeg, Nat.reduceLT, Int.reduceToNat, Nat.reduceLeDiff, Nat.sub_zero, Option.getD_some])
            exact no hk
          · have e3 : decide (c = 125 ∧ way = 3) = false := by simp [h3]
            rw [e3] at hk
            simp only [Bool.not_false, if_true] at hk
            (try simp (maxSteps := 1000000) (dsimp := false) (disch := (first | omega | (simp only [okR]; done) | (simp only [sizeR] <;> omega) | fail)) only [↓preR, postR, ↓w_join, Nat.reduceEqDiff, Nat.reduceAdd, Nat.reduceSub, Nat.reduceMul, Int.reduceNeg, Nat.reduceLT, Int.reduceToNat, Nat.reduceLeDiff, Nat.sub_zero, Option.getD_some])
            exact yes hk
        · have e3 : decide (c = 125 ∧ way = 3) = false := by simp [i125, h125]
          rw [e3] at hk
          simp only [Bool.not_false, if_true] at hk
          (try simp (maxSteps := 1000000) (dsimp := false) (disch := (first | omega | (simp only [okR]; done) | (simp only [sizeR] <;> omega) | fail)) only [↓preR, postR, ↓w_join, Nat.reduceEqDiff, Nat.reduceAdd, Nat.reduceSub, Nat.reduceMul, Int.reduceNeg, Nat.reduceLT, Int.reduceToNat, Nat.reduceLeDiff, Nat.sub_zero, Option.getD_some])
          exact yes hk
/-- A run, or a sum. -/
theorem run_c (hf : FitW out n) (hn : n + t.length ≤ 900000) (ht : 2 ≤ t.length) (h : Hs σ X (Rdr p out e :: R)) (hk : ∀ w σ', Hs σ' X (Rdr p (runP t q out) e :: R) → k w σ') :
    kCall Tryz.prog 46 [pv p, .string (bs t), .bool q] σ k := by
  refine f46 ?_
  have hm : (t.drop 1).take (t.length - 1 - 1) = mid t := by unfold mid; rw [show t.length - 1 - 1 = t.length - 2 from by omega]
  have hml := mid_len t
  unfold runP at hk
  (try simp (maxSteps := 1000000) (dsimp := false) (disch := (first | omega | (simp only [okR]; done) | (simp only [sizeR] <;> omega) | fail)) only [↓preR, postR, ↓w_stop, Nat.reduceEqDiff, Nat.reduceAdd, Nat.reduceSub, Nat.reduceMul, Int.reduceNeg, Nat.reduceLT, Int.reduceToNat, Nat.reduceLeDiff, Nat.sub_zero, F46, hm])
  refine join_by fun J hJ => ?_
  have tail : (∀ w σ', Hs σ' X (Rdr p (addP out (.mk 3 (mid t) q 0 false [])) e :: R) → k w σ') → ∀ s1, Hs s1 X (Rdr p out e :: R) → J [] s1 := by
    intro hk s1 h1
    refine hJ _ _ ?_
    clear hJ
    (try simp (maxSteps := 1000000) (dsimp := false) (disch := (first | omega | (simp only [okR]; done) | (simp only [sizeR] <;> omega) | fail)) only [↓preR, postR, ↓w_stop, Nat.reduceEqDiff, Nat.reduceAdd, Nat.reduceSub, Nat.reduceMul, Int.reduceNeg, Nat.reduceLT, Int.reduceToNat, Nat.reduceLeDiff, Nat.sub_zero])
    exact add_c (x := .mk 3 (mid t) q 0 false []) (v := .slice none 0 0) (leafOk (by unfold maxLen; omega) (by omega) (by omega)) (by have := hf.1; omega) (by have := hf.2; show txt out + (mid t).length ≤ _; omega) h1 fun w σ1 h1 => hk _ _ h1
  clear hJ
  (try simp (maxSteps := 1000000) (dsimp := false) (disch := (first | omega | (simp only [okR]; done) | (simp only [sizeR] <;> omega) | fail)) only [↓preR, postR, ↓w_stop, Nat.reduceEqDiff, Nat.reduceAdd, Nat.reduceSub, Nat.reduceMul, Int.reduceNeg, Nat.reduceLT, Int.reduceToNat, Nat.reduceLeDiff, Nat.sub_zero])
  refine pref_c (pre := [40]) (by unfold maxLen; omega) ?_
  have hpre : isPre [40] (mid t) = decide ((mid t).take ([40] : Str).length = [40]) := rfl
  rw [hpre] at hk
  by_cases h40 : (mid t).take ([40] : Str).length = [40]
  rotate_left
  · have hF : ((mid t).take ([40] : Str).length = [40]) = False := eq_false h40
    simp only [hF, decide_false, Bool.false_eq_true, false_and, if_false] at hk
    (try simp (maxSteps := 1000000) (dsimp := false) (disch := (first | omega | (simp only [okR]; done) | (simp only [sizeR] <;> omega) | fail)) only [↓preR, postR, ↓w_stop, Nat.reduceEqDiff, Nat.reduceAdd, Nat.reduceSub, Nat.reduceMul, Int.reduceNeg, Nat.reduceLT, Int.reduceToNat, Nat.reduceLeDiff, Nat.sub_zero, hF])
    exact tail hk _ h
  have hT : ((mid t).take ([40] : Str).length = [40]) = True := eq_true h40
  simp only [hT, decide_true, true_and] at hk
  (try simp (maxSteps := 1000000) (dsimp := false) (disch := (first | omega | (simp only [okR]; done) | (simp only [sizeR] <;> omega) | fail)) only [↓preR, postR, ↓w_stop, Nat.reduceEqDiff, Nat.reduceAdd, Nat.reduceSub, Nat.reduceMul, Int.reduceNeg, Nat.reduceLT, Int.reduceToNat, Nat.reduceLeDiff, Nat.sub_zero, hT])
  refine piece_c (s := 36 :: mid t) (i := 0) (q := false) (by simp; omega) (by unfold inI64; omega) h fun s1 h1 => ?_
  have hP : pieceP (36 :: mid t) 0 false = match go FU none (36 :: mid t) false true false 0 with
    | .ok n => ((n : Int), 0, 0)
    | .bad e b => (0, (b : Int), e)
    | .cut => (0, 0, 0) := by
    unfold pieceP
    rw [if_neg (by simp)]
    simp only [Int.toNat_zero, List.drop_zero, Bool.not_false, Int.zero_add]
    rfl
  rw [hP]
  cases hg : go FU none (36 :: mid t) false true false 0 with
  | ok m =>
    rw [hg] at hk
    by_cases hmm : m = (mid t).length + 1
    · have hk2 : ∀ w σ', Hs σ' X (Rdr p (addP out (.mk 4 (mid (mid t)) q 0 false [])) e :: R) → k w σ' := by
        have : okN (.ok m) = some ((mid t).length + 1) := by rw [hmm]; rfl
        simp only [this, if_true] at hk
        exact hk
      have h2 : 2 ≤ (mid t).length := by
        obtain ⟨c, r, hc⟩ : ∃ c r, mid t = c :: r := by
          cases hmt : mid t with
          | nil => rw [hmt] at h40; simp at h40
          | cons c r => exact ⟨c, r, rfl⟩
        rw [hc] at h40 hg hmm ⊢
        simp at h40
        subst h40
        have h3 : go FU none (36 :: 40 :: r) false true false 0 = shut 1 2 0 (go 2099999 (some 41) r false true true (0 + 1)) := by
          show go (2099999 + 1) none (36 :: 40 :: r) false true false 0 = _
          rw [go_n]; simp
        rw [h3] at hg
        obtain ⟨i, hi, he⟩ := shut_ok hg
        have := go_ok hi
        simp at hmm ⊢
        omega
      have hmm2 : (mid t).take ((mid t).length - 1) = (mid t).take ((mid t).length - 1) := rfl
      have hm2 : ((mid t).drop 1).take ((mid t).length - 1 - 1) = mid (mid t) := by
        show _ = ((mid t).drop 1).take ((mid t).length - 2)
        rw [show (mid t).length - 1 - 1 = (mid t).length - 2 from by omega]
      (try simp (maxSteps := 1000000) (dsimp := false) (disch := (first | omega | (simp only [okR]; done) | (simp only [sizeR] <;> omega) | fail)) only [↓preR, postR, ↓w_stop, Nat.reduceEqDiff, Nat.reduceAdd, Nat.reduceSub, Nat.reduceMul, Int.reduceNeg, Nat.reduceLT, Int.reduceToNat, Nat.reduceLeDiff, Nat.sub_zero, hm2])
      exact add_c (x := .mk 4 (mid (mid t)) q 0 false []) (v := .slice none 0 0) (leafOk (by rw [mid_len]; unfold maxLen; omega) (by omega) (by omega)) (by have := hf.1; omega) (by have := hf.2; have := mid_len (mid t); show txt out + (mid (mid t)).length ≤ _; omega) h1 fun w σ1 h1 => hk2 _ _ h1
    · have hk2 : ∀ w σ', Hs σ' X (Rdr p (addP out (.mk 3 (mid t) q 0 false [])) e :: R) → k w σ' := by
        have : ¬ okN (.ok m) = some ((mid t).length + 1) := by simp [okN, hmm]
        simp only [this, if_false] at hk
        exact hk
      (try simp (maxSteps := 1000000) (dsimp := false) (disch := (first | omega | (simp only [okR]; done) | (simp only [sizeR] <;> omega) | fail)) only [↓preR, postR, ↓w_stop, Nat.reduceEqDiff, Nat.reduceAdd, Nat.reduceSub, Nat.reduceMul, Int.reduceNeg, Nat.reduceLT, Int.reduceToNat, Nat.reduceLeDiff, Nat.sub_zero])
      exact tail hk2 _ h1
  | bad e' b =>
    rw [hg] at hk
    have he : ¬ e' = 0 := by have := (go_bad hg).2; omega
    have hk2 : ∀ w σ', Hs σ' X (Rdr p (addP out (.mk 3 (mid t) q 0 false [])) e :: R) → k w σ' := by
      simp only [okN, reduceCtorEq, if_false] at hk
      exact hk
    (try simp (maxSteps := 1000000) (dsimp := false) (disch := (first | omega | (simp only [okR]; done) | (simp only [sizeR] <;> omega) | fail)) only [↓preR, postR, ↓w_stop, Nat.reduceEqDiff, Nat.reduceAdd, Nat.reduceSub, Nat.reduceMul, Int.reduceNeg, Nat.reduceLT, Int.reduceToNat, Nat.reduceLeDiff, Nat.sub_zero, he])
    exact tail hk2 _ h1
  | cut => exact (go_cut (by simp) hg).elim
end
end Go.Proofs.YtmgdkoidgoihfaaGreatDoor

/- Words: names, parameters, where a thing ends, parts handed on. Conditions: as each theorem says. -/
namespace Go.Proofs.YtmgdkoidgoihfaaGreatDoor
open E Go.Lib
open Go.RowKit
set_option linter.unusedVariables false
set_option linter.unusedSimpArgs false
set_option maxHeartbeats 1000000
set_option maxRecDepth 20000

theorem dig_none : ∀ s : Str, frontF 0 s = 0 → 0 < digN s → True := fun _ _ _ => trivial
section
variable {σ σ' : AS} {X : Ce} {R : List Ck} {k : Value → AS → Prop} {p n i : Nat} {e : Int} {out : List Pt} {s t : Str} {c : UInt8} {way : Nat} {q : Bool}
theorem four_c {k1 : Value → AS → Prop} {m : Int} (hm : m = c.toNat) (hk : k1 (.int .i64 (match posB c signs4 with | some n => (n : Int) | none => -1)) σ) : kCall Tryz.prog 39 [.string (bs [64, 42, 35, 63]), .int .u8 m] σ k1 := idx_c hm hk
theorem param_c (hs : s.length ≤ 1000000) (hk : k (.int .i64 (paramN s)) σ) : kCall Tryz.prog 68 [.string (bs s)] σ k := by
  refine f68 ?_
  have hfl := front_le s 0
  unfold paramN at hk
  (try simp (maxSteps := 1000000) (dsimp := false) (disch := (first | omega | (simp only [okR]; done) | (simp only [sizeR] <;> omega) | fail)) only [↓preR, postR, ↓w_stop, Nat.reduceEqDiff, Nat.reduceAdd, Nat.reduceSub, Nat.reduceMul, Int.reduceNeg, Nat.reduceLT, Int.reduceToNat, Nat.reduceLeDiff, Nat.sub_zero, F68])
  refine join_now ?_
  refine front_c (by unfold maxLen; omega) ?_
  by_cases h0 : 0 < frontF 0 s
  · rw [if_pos h0] at hk
    (try simp (maxSteps := 1000000) (dsimp := false) (disch := (first | omega | (simp only [okR]; done) | (simp only [sizeR] <;> omega) | fail)) only [↓preR, postR, ↓w_stop, Nat.reduceEqDiff, Nat.reduceAdd, Nat.reduceSub, Nat.reduceMul, Int.reduceNeg, Nat.reduceLT, Int.reduceToNat, Nat.reduceLeDiff, Nat.sub_zero])
    exact hk
  rw [if_neg h0] at hk
  (try simp (maxSteps := 1000000) (dsimp := false) (disch := (first | omega | (simp only [okR]; done) | (simp only [sizeR] <;> omega) | fail)) only [↓preR, postR, ↓w_stop, Nat.reduceEqDiff, Nat.reduceAdd, Nat.reduceSub, Nat.reduceMul, Int.reduceNeg, Nat.reduceLT, Int.reduceToNat, Nat.reduceLeDiff, Nat.sub_zero])
  refine join_by fun J hJ => ?_
  have tail : J [.int .i64 (digN s)] σ := by
    refine hJ _ _ ?_
    clear hJ
    have hdl := dig_le s
    have hhd : s.head? = s[0]? := by cases s <;> rfl
    (try simp (maxSteps := 1000000) (dsimp := false) (disch := (first | omega | (simp only [okR]; done) | (simp only [sizeR] <;> omega) | fail)) only [↓preR, postR, ↓w_stop, Nat.reduceEqDiff, Nat.reduceAdd, Nat.reduceSub, Nat.reduceMul, Int.reduceNeg, Nat.reduceLT, Int.reduceToNat, Nat.reduceLeDiff, Nat.sub_zero])
    refine join_now ?_
    by_cases h3 : 3 < digN s
    · rw [if_pos (.inl h3)] at hk
      (try simp (maxSteps := 1000000) (dsimp := false) (disch := (first | omega | (simp only [okR]; done) | (simp only [sizeR] <;> omega) | fail)) only [↓preR, postR, ↓w_stop, Nat.reduceEqDiff, Nat.reduceAdd, Nat.reduceSub, Nat.reduceMul, Int.reduceNeg, Nat.reduceLT, Int.reduceToNat, Nat.reduceLeDiff, Nat.sub_zero])
      exact hk
    by_cases h1 : 1 < digN s
    · have hlt : 0 < s.length := by omega
      have hg : s[0]? = some s[0] := List.getElem?_eq_getElem hlt
      have i48 := u8_eq (c := s[0]) (x := 48) (n := 48) rfl
      by_cases h48 : s[0].toNat = 48
      · rw [if_pos (.inr ⟨h1, by rw [hhd, hg, i48.2 h48]⟩)] at hk
        (try simp (maxSteps := 1000000) (dsimp := false) (disch := (first | omega | (simp only [okR]; done) | (simp only [sizeR] <;> omega) | fail)) only [↓preR, postR, ↓w_stop, Nat.reduceEqDiff, Nat.reduceAdd, Nat.reduceSub, Nat.reduceMul, Int.reduceNeg, Nat.reduceLT, Int.reduceToNat, Nat.reduceLeDiff, Nat.sub_zero, hg, Option.getD_some])
        exact hk
      · rw [if_neg (by
          rintro (h | ⟨_, h⟩)
          · exact h3 h
          · rw [hhd, hg] at h; injection h with h; exact h48 (i48.1 h)), if_pos (by omega)] at hk
        (try simp (maxSteps := 1000000) (dsimp := false) (disch := (first | omega | (simp only [okR]; done) | (simp only [sizeR] <;> omega) | fail)) only [↓preR, postR, ↓w_stop, Nat.reduceEqDiff, Nat.reduceAdd, Nat.reduceSub, Nat.reduceMul, Int.reduceNeg, Nat.reduceLT, Int.reduceToNat, Nat.reduceLeDiff, Nat.sub_zero, hg, Option.getD_some])
        exact hk
    · by_cases hd : 0 < digN s
      · rw [if_neg (by omega), if_pos hd] at hk
        (try simp (maxSteps := 1000000) (dsimp := false) (disch := (first | omega | (simp only [okR]; done) | (simp only [sizeR] <;> omega) | fail)) only [↓preR, postR, ↓w_stop, Nat.reduceEqDiff, Nat.reduceAdd, Nat.reduceSub, Nat.reduceMul, Int.reduceNeg, Nat.reduceLT, Int.reduceToNat, Nat.reduceLeDiff, Nat.sub_zero])
        exact hk
      · rw [if_neg (by omega), if_neg hd] at hk
        cases s with
        | nil => (try simp (maxSteps := 1000000) (dsimp := false) (disch := (first | omega | (simp only [okR]; done) | (simp only [sizeR] <;> omega) | fail)) only [↓preR, postR, ↓w_stop, Nat.reduceEqDiff, Nat.reduceAdd, Nat.reduceSub, Nat.reduceMul, Int.reduceNeg, Nat.reduceLT, Int.reduceToNat, Nat.reduceLeDiff, Nat.sub_zero]); exact hk
        | cons c t =>
          have hne : (c :: t = []) = False := by simp
          have hlen : (c :: t).length = t.length + 1 := rfl
          (try simp (maxSteps := 1000000) (dsimp := false) (disch := (first | omega | (simp only [okR]; done) | (simp only [sizeR] <;> omega) | fail)) only [↓preR, postR, ↓w_stop, Nat.reduceEqDiff, Nat.reduceAdd, Nat.reduceSub, Nat.reduceMul, Int.reduceNeg, Nat.reduceLT, Int.reduceToNat, Nat.reduceLeDiff, Nat.sub_zero, hne, hlen, Option.getD_some])
          refine four_c rfl ?_
          have hps := posB_has c signs4
          cases hpo : posB c signs4 with
          | none =>
            rw [hpo] at hps
            simp only [← hps, Option.isSome_none, Bool.false_eq_true, if_false] at hk
            (try simp (maxSteps := 1000000) (dsimp := false) (disch := (first | omega | (simp only [okR]; done) | (simp only [sizeR] <;> omega) | fail)) only [↓preR, postR, ↓w_stop, Nat.reduceEqDiff, Nat.reduceAdd, Nat.reduceSub, Nat.reduceMul, Int.reduceNeg, Nat.reduceLT, Int.reduceToNat, Nat.reduceLeDiff, Nat.sub_zero])
            exact hk
          | some m =>
            rw [hpo] at hps
            simp only [← hps, Option.isSome_some, if_true] at hk
            (try simp (maxSteps := 1000000) (dsimp := false) (disch := (first | omega | (simp only [okR]; done) | (simp only [sizeR] <;> omega) | fail)) only [↓preR, postR, ↓w_stop, Nat.reduceEqDiff, Nat.reduceAdd, Nat.reduceSub, Nat.reduceMul, Int.reduceNeg, Nat.reduceLT, Int.reduceToNat, Nat.reduceLeDiff, Nat.sub_zero])
            exact hk
  clear hJ
  (try simp (maxSteps := 1000000) (dsimp := false) (disch := (first | omega | (simp only [okR]; done) | (simp only [sizeR] <;> omega) | fail)) only [↓preR, postR, ↓w_stop, Nat.reduceEqDiff, Nat.reduceAdd, Nat.reduceSub, Nat.reduceMul, Int.reduceNeg, Nat.reduceLT, Int.reduceToNat, Nat.reduceLeDiff, Nat.sub_zero])
  refine loop_inv (fun nn xs s1 => ∃ j : Nat, xs = [.int .i64 j] ∧ σ = s1 ∧ j ≤ s.length ∧ j + digN (s.drop j) = digN s ∧ nn = s.length - j) _ ⟨0, rfl, rfl, Nat.zero_le _, by simp, rfl⟩ ?_
  rintro _ _ s1 again ⟨j, rfl, rfl, hj, hf, rfl⟩ hag
  (try simp (maxSteps := 1000000) (dsimp := false) (disch := (first | omega | (simp only [okR]; done) | (simp only [sizeR] <;> omega) | fail)) only [↓preR, postR, ↓w_stop, Nat.reduceEqDiff, Nat.reduceAdd, Nat.reduceSub, Nat.reduceMul, Int.reduceNeg, Nat.reduceLT, Int.reduceToNat, Nat.reduceLeDiff, Nat.sub_zero])
  refine join_now ?_
  by_cases hlt : j < s.length
  · rw [List.drop_eq_getElem_cons hlt] at hf
    have hg : (s[j]?.getD 0) = s[j] := by simp [hlt]
    (try simp (maxSteps := 1000000) (dsimp := false) (disch := (first | omega | (simp only [okR]; done) | (simp only [sizeR] <;> omega) | fail)) only [↓preR, postR, ↓w_stop, Nat.reduceEqDiff, Nat.reduceAdd, Nat.reduceSub, Nat.reduceMul, Int.reduceNeg, Nat.reduceLT, Int.reduceToNat, Nat.reduceLeDiff, Nat.sub_zero, hg])
    refine digit_c ?_
    cases hD : digitB s[j] with
    | true =>
      simp only [digN, hD, if_true] at hf
      (try simp (maxSteps := 1000000) (dsimp := false) (disch := (first | omega | (simp only [okR]; done) | (simp only [sizeR] <;> omega) | fail)) only [↓preR, postR, ↓w_stop, Nat.reduceEqDiff, Nat.reduceAdd, Nat.reduceSub, Nat.reduceMul, Int.reduceNeg, Nat.reduceLT, Int.reduceToNat, Nat.reduceLeDiff, Nat.sub_zero])
      exact hag _ _ _ ⟨j + 1, rfl, rfl, hlt, by omega, rfl⟩ (by omega)
    | false =>
      simp only [digN, hD, Bool.false_eq_true, if_false, Nat.add_zero] at hf
      (try simp (maxSteps := 1000000) (dsimp := false) (disch := (first | omega | (simp only [okR]; done) | (simp only [sizeR] <;> omega) | fail)) only [↓preR, postR, ↓w_stop, Nat.reduceEqDiff, Nat.reduceAdd, Nat.reduceSub, Nat.reduceMul, Int.reduceNeg, Nat.reduceLT, Int.reduceToNat, Nat.reduceLeDiff, Nat.sub_zero])
      rw [hf]
      exact tail
  · rw [List.drop_of_length_le (by omega)] at hf
    simp only [digN, Nat.add_zero] at hf
    (try simp (maxSteps := 1000000) (dsimp := false) (disch := (first | omega | (simp only [okR]; done) | (simp only [sizeR] <;> omega) | fail)) only [↓preR, postR, ↓w_stop, Nat.reduceEqDiff, Nat.reduceAdd, Nat.reduceSub, Nat.reduceMul, Int.reduceNeg, Nat.reduceLT, Int.reduceToNat, Nat.reduceLeDiff, Nat.sub_zero])
    rw [hf]
    exact tail
/-- A name behind a $. -/
theorem wdollar_c (hf : FitW out n) (hn : n + t.length ≤ 900000) (h : Hs σ X (Rdr p out e :: R))
    (hk0 : namedN t = 0 → k (.int .i64 0) σ) (hk1 : 0 < namedN t → ∀ σ', Hs σ' X (Rdr p (addP out (.mk 2 (t.take (namedN t)) q 0 false [])) e :: R) → k (.int .i64 ((1 + namedN t : Nat) : Int)) σ') :
    kCall Tryz.prog 24 [pv p, .string (bs (36 :: t)), .bool q] σ k := by
  refine f24 ?_
  have hnl := named_le t
  have hlen : (36 :: t).length = t.length + 1 := rfl
  have hd : t.take (t.length + 1 - 1) = t := by simp
  (try simp (maxSteps := 1000000) (dsimp := false) (disch := (first | omega | (simp only [okR]; done) | (simp only [sizeR] <;> omega) | fail)) only [↓preR, postR, ↓w_stop, Nat.reduceEqDiff, Nat.reduceAdd, Nat.reduceSub, Nat.reduceMul, Int.reduceNeg, Nat.reduceLT, Int.reduceToNat, Nat.reduceLeDiff, Nat.sub_zero, F24, hlen, hd])
  refine join_by fun J hJ => ?_
  have tail : 0 < namedN t → J [.int .i64 (namedN t)] σ := by
    intro h0
    refine hJ _ _ ?_
    clear hJ
    have hd2 : ((36 :: t).drop 1).take (1 + namedN t - 1) = t.take (namedN t) := by simp
    have e1 : ((1 : Int) + (namedN t : Int)).toNat = 1 + namedN t := by omega
    (try simp (maxSteps := 1000000) (dsimp := false) (disch := (first | omega | (simp only [okR]; done) | (simp only [sizeR] <;> omega) | fail)) only [↓preR, postR, ↓w_stop, Nat.reduceEqDiff, Nat.reduceAdd, Nat.reduceSub, Nat.reduceMul, Int.reduceNeg, Nat.reduceLT, Int.reduceToNat, Nat.reduceLeDiff, Nat.sub_zero, hlen, e1, hd2, Nat.add_sub_cancel_left, List.drop_succ_cons])
    refine add_c (x := .mk 2 (t.take (namedN t)) q 0 false []) (v := .slice none 0 0) (leafOk (by rw [List.length_take]; unfold maxLen; omega) (by omega) (by omega)) (by have := hf.1; omega) (by have := hf.2; show txt out + (t.take (namedN t)).length ≤ _; rw [List.length_take]; omega) h fun w σ1 h1 => ?_
    (try simp (maxSteps := 1000000) (dsimp := false) (disch := (first | omega | (simp only [okR]; done) | (simp only [sizeR] <;> omega) | fail)) only [↓preR, postR, ↓w_stop, Nat.reduceEqDiff, Nat.reduceAdd, Nat.reduceSub, Nat.reduceMul, Int.reduceNeg, Nat.reduceLT, Int.reduceToNat, Nat.reduceLeDiff, Nat.sub_zero])
    have := hk1 h0 _ h1
    simpa using this
  clear hJ
  have hfl := front_le t 0
  (try simp (maxSteps := 1000000) (dsimp := false) (disch := (first | omega | (simp only [okR]; done) | (simp only [sizeR] <;> omega) | fail)) only [↓preR, postR, ↓w_stop, Nat.reduceEqDiff, Nat.reduceAdd, Nat.reduceSub, Nat.reduceMul, Int.reduceNeg, Nat.reduceLT, Int.reduceToNat, Nat.reduceLeDiff, Nat.sub_zero, hlen, hd])
  refine front_c (by unfold maxLen; omega) ?_
  by_cases h0 : 0 < frontF 0 t
  · have e : namedN t = frontF 0 t := by unfold namedN; rw [if_pos h0]
    (try simp (maxSteps := 1000000) (dsimp := false) (disch := (first | omega | (simp only [okR]; done) | (simp only [sizeR] <;> omega) | fail)) only [↓preR, postR, ↓w_stop, Nat.reduceEqDiff, Nat.reduceAdd, Nat.reduceSub, Nat.reduceMul, Int.reduceNeg, Nat.reduceLT, Int.reduceToNat, Nat.reduceLeDiff, Nat.sub_zero])
    refine front_c (by unfold maxLen; omega) ?_
    (try simp (maxSteps := 1000000) (dsimp := false) (disch := (first | omega | (simp only [okR]; done) | (simp only [sizeR] <;> omega) | fail)) only [↓preR, postR, ↓w_stop, Nat.reduceEqDiff, Nat.reduceAdd, Nat.reduceSub, Nat.reduceMul, Int.reduceNeg, Nat.reduceLT, Int.reduceToNat, Nat.reduceLeDiff, Nat.sub_zero])
    rw [← e]
    exact tail (by omega)
  cases t with
  | nil =>
    have e : namedN [] = 0 := rfl
    (try simp (maxSteps := 1000000) (dsimp := false) (disch := (first | omega | (simp only [okR]; done) | (simp only [sizeR] <;> omega) | fail)) only [↓preR, postR, ↓w_stop, Nat.reduceEqDiff, Nat.reduceAdd, Nat.reduceSub, Nat.reduceMul, Int.reduceNeg, Nat.reduceLT, Int.reduceToNat, Nat.reduceLeDiff, Nat.sub_zero])
    exact hk0 e
  | cons c r =>
    have e : namedN (c :: r) = if (digitB c || signs4.contains c) = true then 1 else 0 := by unfold namedN; rw [if_neg h0]
    have hne : (c :: r = []) = False := by simp
    have hlen2 : (c :: r).length = r.length + 1 := rfl
    (try simp (maxSteps := 1000000) (dsimp := false) (disch := (first | omega | (simp only [okR]; done) | (simp only [sizeR] <;> omega) | fail)) only [↓preR, postR, ↓w_stop, Nat.reduceEqDiff, Nat.reduceAdd, Nat.reduceSub, Nat.reduceMul, Int.reduceNeg, Nat.reduceLT, Int.reduceToNat, Nat.reduceLeDiff, Nat.sub_zero, hne, hd, hlen2, Option.getD_some])
    refine digit_c ?_
    cases hD : digitB c with
    | true =>
      rw [hD, Bool.true_or, if_pos rfl] at e
      rw [e] at tail
      (try simp (maxSteps := 1000000) (dsimp := false) (disch := (first | omega | (simp only [okR]; done) | (simp only [sizeR] <;> omega) | fail)) only [↓preR, postR, ↓w_stop, Nat.reduceEqDiff, Nat.reduceAdd, Nat.reduceSub, Nat.reduceMul, Int.reduceNeg, Nat.reduceLT, Int.reduceToNat, Nat.reduceLeDiff, Nat.sub_zero])
      exact tail (by omega)
    | false =>
      rw [hD, Bool.false_or] at e
      (try simp (maxSteps := 1000000) (dsimp := false) (disch := (first | omega | (simp only [okR]; done) | (simp only [sizeR] <;> omega) | fail)) only [↓preR, postR, ↓w_stop, Nat.reduceEqDiff, Nat.reduceAdd, Nat.reduceSub, Nat.reduceMul, Int.reduceNeg, Nat.reduceLT, Int.reduceToNat, Nat.reduceLeDiff, Nat.sub_zero, hlen2, Option.getD_some])
      refine four_c rfl ?_
      have hps := posB_has c signs4
      cases hpo : posB c signs4 with
      | none =>
        rw [hpo] at hps
        rw [← hps] at e
        simp only [Option.isSome_none, Bool.false_eq_true, if_false] at e
        (try simp (maxSteps := 1000000) (dsimp := false) (disch := (first | omega | (simp only [okR]; done) | (simp only [sizeR] <;> omega) | fail)) only [↓preR, postR, ↓w_stop, Nat.reduceEqDiff, Nat.reduceAdd, Nat.reduceSub, Nat.reduceMul, Int.reduceNeg, Nat.reduceLT, Int.reduceToNat, Nat.reduceLeDiff, Nat.sub_zero])
        exact hk0 e
      | some m =>
        rw [hpo] at hps
        rw [← hps] at e
        simp only [Option.isSome_some, if_true] at e
        rw [e] at tail
        (try simp (maxSteps := 1000000) (dsimp := false) (disch := (first | omega | (simp only [okR]; done) | (simp only [sizeR] <;> omega) | fail)) only [↓preR, postR, ↓w_stop, Nat.reduceEqDiff, Nat.reduceAdd, Nat.reduceSub, Nat.reduceMul, Int.reduceNeg, Nat.reduceLT, Int.reduceToNat, Nat.reduceLeDiff, Nat.sub_zero])
        exact tail (by omega)
/-- Where the thing ends that begins here. -/
theorem wend_c (hs : s.length ≤ 1000000) (hi : i < s.length) (hw : way ≤ 5) (h : Hs σ X R)
    (hk : match go FU none (s.drop i) (qOf s[i] way) (!qOf s[i] way) false 0 with
      | .ok n => ∀ σ', Hs σ' X R → k (.tuple #[.int .i64 ((i + n : Nat) : Int), .int .i64 0]) σ'
      | .bad e _ => ¬ e = 0 → ∀ σ', Hs σ' X R → k (.tuple #[.int .i64 0, .int .i64 e]) σ'
      | .cut => True) : kCall Tryz.prog 26 [.string (bs s), .int .i64 i, .int .i64 way] σ k := by
  refine f26 ?_
  have hg : (s[i]?.getD 0) = s[i] := by simp [hi]
  have i34 := u8_eq (c := s[i]) (x := 34) (n := 34) rfl
  have fin : ∀ q, qOf s[i] way = q → kCall Tryz.prog 41 [.string (bs s), .int .i64 i, .bool q] σ fun v52 s => kExt 0 v52 fun v53 => kExt 1 v52 fun v54 => kExt 2 v52 fun v55 => k (.tuple #[v53, v55]) s := by
    intro q hq
    rw [hq] at hk
    refine piece_c hs (by unfold inI64; omega) h fun s1 h1 => ?_
    unfold pieceP
    rw [if_neg (by omega), Int.toNat_natCast]
    cases hg : go FU none (s.drop i) q (!q) false 0 with
    | ok m =>
      rw [hg] at hk
      (try simp (maxSteps := 1000000) (dsimp := false) (disch := (first | omega | (simp only [okR]; done) | (simp only [sizeR] <;> omega) | fail)) only [↓preR, postR, ↓w_join, Nat.reduceEqDiff, Nat.reduceAdd, Nat.reduceSub, Nat.reduceMul, Int.reduceNeg, Nat.reduceLT, Int.reduceToNat, Nat.reduceLeDiff, Nat.sub_zero])
      have := hk _ h1
      simpa using this
    | bad e' b =>
      rw [hg] at hk
      (try simp (maxSteps := 1000000) (dsimp := false) (disch := (first | omega | (simp only [okR]; done) | (simp only [sizeR] <;> omega) | fail)) only [↓preR, postR, ↓w_join, Nat.reduceEqDiff, Nat.reduceAdd, Nat.reduceSub, Nat.reduceMul, Int.reduceNeg, Nat.reduceLT, Int.reduceToNat, Nat.reduceLeDiff, Nat.sub_zero])
      exact hk (by have := (go_bad hg).2; omega) _ h1
    | cut => exact (go_cut (by intro h0; have := congrArg List.length h0; rw [List.length_drop] at this; simp at this; omega) hg).elim
  (try simp (maxSteps := 1000000) (dsimp := false) (disch := (first | omega | (simp only [okR]; done) | (simp only [sizeR] <;> omega) | fail)) only [↓preR, postR, ↓w_stop, Nat.reduceEqDiff, Nat.reduceAdd, Nat.reduceSub, Nat.reduceMul, Int.reduceNeg, Nat.reduceLT, Int.reduceToNat, Nat.reduceLeDiff, Nat.sub_zero, F26, hg])
  refine join_now ?_
  by_cases h34 : s[i].toNat = 34
  · by_cases h5 : way = 5
    · (try simp (maxSteps := 1000000) (dsimp := false) (disch := (first | omega | (simp only [okR]; done) | (simp only [sizeR] <;> omega) | fail)) only [↓preR, postR, ↓w_stop, Nat.reduceEqDiff, Nat.reduceAdd, Nat.reduceSub, Nat.reduceMul, Int.reduceNeg, Nat.reduceLT, Int.reduceToNat, Nat.reduceLeDiff, Nat.sub_zero, hg])
      exact fin true (by simp [qOf, h5])
    · (try simp (maxSteps := 1000000) (dsimp := false) (disch := (first | omega | (simp only [okR]; done) | (simp only [sizeR] <;> omega) | fail)) only [↓preR, postR, ↓w_stop, Nat.reduceEqDiff, Nat.reduceAdd, Nat.reduceSub, Nat.reduceMul, Int.reduceNeg, Nat.reduceLT, Int.reduceToNat, Nat.reduceLeDiff, Nat.sub_zero, hg])
      exact fin false (by simp [qOf, h5, i34.2 h34])
  · by_cases h2 : 2 ≤ way
    · (try simp (maxSteps := 1000000) (dsimp := false) (disch := (first | omega | (simp only [okR]; done) | (simp only [sizeR] <;> omega) | fail)) only [↓preR, postR, ↓w_stop, Nat.reduceEqDiff, Nat.reduceAdd, Nat.reduceSub, Nat.reduceMul, Int.reduceNeg, Nat.reduceLT, Int.reduceToNat, Nat.reduceLeDiff, Nat.sub_zero, hg])
      exact fin true (by simp [qOf, h2, i34, h34])
    · (try simp (maxSteps := 1000000) (dsimp := false) (disch := (first | omega | (simp only [okR]; done) | (simp only [sizeR] <;> omega) | fail)) only [↓preR, postR, ↓w_stop, Nat.reduceEqDiff, Nat.reduceAdd, Nat.reduceSub, Nat.reduceMul, Int.reduceNeg, Nat.reduceLT, Int.reduceToNat, Nat.reduceLeDiff, Nat.sub_zero, hg])
      exact fin false (by simp [qOf, h2])
/-- Parts are handed on. -/
theorem each_c {v : Value} {w : List Pt} (hw : RepL X v w) (hf : FitW out n) (hn : n + w.length ≤ 900000) (ht : n + txt w ≤ 900000) (h : Hs σ X (Rdr p out e :: R)) (hk : ∀ u σ', Hs σ' X (Rdr p (w.foldl addP out) e :: R) → k u σ') :
    kCall Tryz.prog 66 [v, .func (.func 40) #[pv p] #[]] σ k := by
  obtain ⟨a, b, o, cap, rfl, hc, hm, hat⟩ := pts_at hw
  refine f66 ?_
  unfold maxLen at hm
  (try simp (maxSteps := 1000000) (dsimp := false) (disch := (first | omega | (simp only [okR]; done) | (simp only [sizeR] <;> omega) | fail)) only [↓preR, postR, ↓w_stop, Nat.reduceEqDiff, Nat.reduceAdd, Nat.reduceSub, Nat.reduceMul, Int.reduceNeg, Nat.reduceLT, Int.reduceToNat, Nat.reduceLeDiff, Nat.sub_zero, F66])
  refine loop_inv (fun nn xs s1 => ∃ (j : Nat) (o1 : List Pt), xs = [.int .i64 j] ∧ j ≤ w.length ∧ Hs s1 X (Rdr p o1 e :: R) ∧ (w.drop j).foldl addP o1 = w.foldl addP out ∧ o1.length ≤ n + j ∧ txt o1 + txt (w.drop j) ≤ n + txt w ∧ nn = w.length - j) _ ⟨0, out, rfl, Nat.zero_le _, h, rfl, hf.1, by have := hf.2; simp; omega, rfl⟩ ?_
  rintro _ _ s1 again ⟨j, o1, rfl, hj, h1, hfo, hl, htx, rfl⟩ hag
  (try simp (maxSteps := 1000000) (dsimp := false) (disch := (first | omega | (simp only [okR]; done) | (simp only [sizeR] <;> omega) | fail)) only [↓preR, postR, ↓w_stop, Nat.reduceEqDiff, Nat.reduceAdd, Nat.reduceSub, Nat.reduceMul, Int.reduceNeg, Nat.reduceLT, Int.reduceToNat, Nat.reduceLeDiff, Nat.sub_zero])
  refine join_now ?_
  by_cases hlt : j < w.length
  · rw [List.drop_eq_getElem_cons hlt] at hfo htx
    simp only [List.foldl_cons, txt] at hfo htx
    obtain ⟨rfl, u, g0, g1, g2, g3, g4, c0, c1, c2, c3, c4, c5⟩ := hat j hlt
    generalize w[j] = x at *
    obtain ⟨va, vn, vc, rfl⟩ := g0.val
    have d0 := h1.ldx c0
    have d1 := h1.ldx c1
    have d2 := h1.ldx c2
    have d3 := h1.ldx c3
    have d4 := h1.ldx c4
    have d5 := h1.ldx c5
    (try simp (maxSteps := 1000000) (dsimp := false) (disch := (first | omega | (simp only [okR]; done) | (simp only [sizeR] <;> omega) | fail)) only [↓preR, postR, ↓w_stop, Nat.reduceEqDiff, Nat.reduceAdd, Nat.reduceSub, Nat.reduceMul, Int.reduceNeg, Nat.reduceLT, Int.reduceToNat, Nat.reduceLeDiff, Nat.sub_zero])
    refine join_now ?_
    have h2 := h1.new (cs := [.int .i64 0, .string (bs []), .bool false, .int .i64 0, .bool false, .slice none 0 0])
    have h3 := h2.put (cs' := ptC x (.slice va vn vc))
    (try simp (maxSteps := 1000000) (dsimp := false) (disch := (first | omega | (simp only [okR]; done) | (simp only [sizeR] <;> omega) | fail)) only [↓preR, postR, ↓w_stop, Nat.reduceEqDiff, Nat.reduceAdd, Nat.reduceSub, Nat.reduceMul, Int.reduceNeg, Nat.reduceLT, Int.reduceToNat, Nat.reduceLeDiff, Nat.sub_zero, d0, d1, d2, d3, d4, d5, h2.obj, h3.obj])
    refine ⟨k40_ok, ?_⟩
    refine add_c (x := x) (v := .slice va vn vc) g0 (by omega) (by omega) h3.swap fun u1 s3 h4 => ?_
    (try simp (maxSteps := 1000000) (dsimp := false) (disch := (first | omega | (simp only [okR]; done) | (simp only [sizeR] <;> omega) | fail)) only [↓preR, postR, ↓w_stop, Nat.reduceEqDiff, Nat.reduceAdd, Nat.reduceSub, Nat.reduceMul, Int.reduceNeg, Nat.reduceLT, Int.reduceToNat, Nat.reduceLeDiff, Nat.sub_zero])
    have hal := add_len o1 x
    have hat' := add_txt o1 x
    exact hag _ _ _ ⟨j + 1, addP o1 x, rfl, hlt, h4.swap.drop, hfo, by omega, by omega, rfl⟩ (by omega)
  · rw [List.drop_of_length_le (by omega)] at hfo
    (try simp (maxSteps := 1000000) (dsimp := false) (disch := (first | omega | (simp only [okR]; done) | (simp only [sizeR] <;> omega) | fail)) only [↓preR, postR, ↓w_stop, Nat.reduceEqDiff, Nat.reduceAdd, Nat.reduceSub, Nat.reduceMul, Int.reduceNeg, Nat.reduceLT, Int.reduceToNat, Nat.reduceLeDiff, Nat.sub_zero])
    rw [← hfo] at hk
    exact hk _ _ h1
end
end Go.Proofs.YtmgdkoidgoihfaaGreatDoor
