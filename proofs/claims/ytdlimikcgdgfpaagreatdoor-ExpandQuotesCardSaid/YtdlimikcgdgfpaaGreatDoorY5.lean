/- Words: the reader's calls. Conditions: as each theorem says. -/
import Derived.Test.YtdlimikcgdgfpaaGreatDoorY3
import Derived.Test.YtdlimikcgdgfpaaGreatDoorY1
import Derived.Test.YtdlimikcgdgfpaaGreatDoorY4
import Derived.Lib.SlTrimSet
set_option linter.unusedVariables false
set_option linter.unusedSimpArgs false
set_option maxHeartbeats 4000000
set_option maxRecDepth 100000
open Nat renaming reduceEqDiff → Q1, reduceAdd → Q2, reduceSub → Q3, reduceMul → Q4, reduceLT → Q5, reduceLeDiff → Q6, sub_zero → Q7
open Int renaming reduceNeg → Q8, reduceToNat → Q9
namespace Go.Proofs.YtdlimikcgdgfpaaGreatDoor.W05
open Tryz renaming prog → PG
open E renaming preR → P1, postR → P2, w_join → P3, w_stop → P4, dsc → P5
open E Go.Lib
open Go.RowKit
def Rdr (p : Nat) (out : List Pt) (e : Int) : Ck := Exs (α := Value) (fun _ => True) fun u => [Cel p [u, .int .i64 e], E.Own (α := Pt) u out]
abbrev ptV (p : Pt) (v : Value) : Value := .agg (ptC p v).toArray
section
variable {σ σ' : AS} {X : Ce} {R : List Ck} {k : Value → AS → Prop} {p : Nat} {e : Int} {out : List Pt} {s t : Str} {c : UInt8} {way : Nat} {q : Bool}
theorem within_c (hw : way ≤ 5) (hk : k (.bool (withinB way)) σ) : kCall PG 169 [.int .i64 way] σ k := by
  refine f169 ?_
  have : way = 0 ∨ way = 1 ∨ way = 2 ∨ way = 3 ∨ way = 4 ∨ way = 5 := by omega
  rcases this with rfl | rfl | rfl | rfl | rfl | rfl <;> ((try simp -dsimp (disch := first|exact P5|fail) only [↓P1,P2,↓P3,Q1,Q2,Q3,Q4,Q5,Q6,Q7,Q8,Q9, F169]); exact hk)
theorem add_c {p : Nat} {x : Pt} {v : Value} (hx : RpPt X x (ptC x v)) (hl : out.length ≤ 1000000) (ht : txt out + x.text.length ≤ 1000000) (h : Hs σ X (Rdr p out e :: R)) (hk : ∀ w σ', Hs σ' X (Rdr p (addP out x) e :: R) → k w σ') :
    kCall PG 221 [pv p, ptV x v] σ k := by
  obtain ⟨va, vn, vc, rfl⟩ := hx.val
  obtain ⟨u, _, h⟩ := h.opened
  have h : Hs σ X (Cel p [u, .int .i64 e] :: E.Own (α := Pt) u out :: R) := h
  obtain ⟨ux, uc, rfl, huc⟩ := h.own1
  refine f221 ?_
  have h1 := h.new (cs := ptC x (.slice va vn vc))
  have e1 := h1.obj
  have e2 := h1.obj1
  (try simp -dsimp (disch := first|exact P5|fail) only [↓P1,P2,↓P4,Q1,Q2,Q3,Q4,Q5,Q6,Q7,Q8,Q9, F221])
  generalize AS.new σ _ = s1 at h1 e1 e2 ⊢
  generalize σ.n = q at h1 e1 ⊢
  clear h
  refine join_by fun J hJ => ?_
  have tail : addP out x = out ++ [x] → J [] s1 := by
    intro ha
    refine hJ _ _ ?_
    clear hJ
    have hz := h1.new (cs := [.int .i64 0, .string (bs []), .bool false, .int .i64 0, .bool false, .slice none 0 0])
    have z1 := hz.obj1
    have z2 := hz.obj2
    (try simp -dsimp (disch := first|exact P5|fail) only [↓P1,P2,↓P4,Q1,Q2,Q3,Q4,Q5,Q6,Q7,Q8,Q9, e1, e2, z1, z2])
    refine push_by (a := Pt.mk 0 [] false 0 false []) (h1.front 2 rfl) (e := 29) (bytes := 72) (by kernel_rfl) (by kernel_rfl) (RpPt.leaf (by simp [Pt.text, maxLen]) (by simp [Pt.kind, inI64]) (by simp [Pt.op, inI64]) rfl) (by omega) (by unfold maxLen; omega) fun v' s2 h2 => ?_
    obtain ⟨g, c, ys, rfl, hc1, hc2, hm, hle, hset⟩ := Own.elem (n := out.length) h2 (by simp)
    have h3 := hset x _ hx
    rw [List.set_append_right _ _ (Nat.le_refl _), Nat.sub_self, List.set_cons_zero, ← ha] at h3
    have hlen : ((out ++ [Pt.mk 0 [] false 0 false []]).length : Int) = (out.length : Int) + 1 := by simp
    have hle' : out.length * 6 + 6 ≤ ys.length := hle
    have e3 := (h2.front 2 rfl).obj
    have e4 := (h3.front 2 rfl).obj
    have h4 := (((h3.front 2 rfl).put (cs' := [.slice (some ⟨g, 0, none⟩) (out ++ [Pt.mk 0 [] false 0 false []]).length c, .int .i64 e])))
    have fin : ∀ s3, Hs s3 X (Cel p [.slice (some ⟨g, 0, none⟩) (out ++ [Pt.mk 0 [] false 0 false []]).length c, .int .i64 e] :: E.Own (α := Pt) (.slice (some ⟨g, 0, none⟩) (out ++ [Pt.mk 0 [] false 0 false []]).length c) (addP out x) :: Cel q (ptC x (.slice va vn vc)) :: R) → k undef s3 := by
      intro s3 h5
      refine hk _ _ (Hs.closed (f := fun u => [Cel p [u, .int .i64 e], E.Own (α := Pt) u (addP out x)]) (.slice (some ⟨g, 0, none⟩) (out ++ [Pt.mk 0 [] false 0 false []]).length c) trivial ?_)
      exact (h5.front 2 rfl).drop
    have e4' : (s2.put g (.cells (ys.take (out.length * 6) ++ ptC x (.slice va vn vc) ++ ys.drop (out.length * 6 + 6)))).m p = some (.cells [.slice ux out.length uc, .int .i64 e]) := e4
    (try simp -dsimp (disch := first|exact P5|fail) only [↓P1,P2,↓P4,Q1,Q2,Q3,Q4,Q5,Q6,Q7,Q8,Q9])
    refine alt_i ?_ ?_
    · (try simp -dsimp (disch := first|exact P5|fail) only [↓P1,P2,↓P4,Q1,Q2,Q3,Q4,Q5,Q6,Q7,Q8,Q9, hm, hle', e4'])
      exact fin _ h4
    · have h5 := (h2.front 2 rfl).put (cs' := [.slice (some ⟨g, 0, none⟩) (out ++ [Pt.mk 0 [] false 0 false []]).length c, .int .i64 e])
      obtain ⟨g', c', ys', e5, _, _, hm', hl2, hset'⟩ := Own.elem (n := out.length) h5.swap (by simp)
      injection e5 with e5 _ _
      injection e5 with e5
      injection e5 with e5 _ _
      subst e5
      have hl2' : out.length * 6 + 6 ≤ ys'.length := hl2
      have h6 := hset' x _ hx
      rw [List.set_append_right _ _ (Nat.le_refl _), Nat.sub_self, List.set_cons_zero, ← ha] at h6
      (try simp -dsimp (disch := first|exact P5|fail) only [↓P1,P2,↓P4,Q1,Q2,Q3,Q4,Q5,Q6,Q7,Q8,Q9, e3, hm', hl2'])
      exact fin _ h6.swap
  by_cases k1 : x.kind = 1
  rotate_left
  · (try simp -dsimp (disch := first|exact P5|fail) only [↓P1,P2,↓P4,Q1,Q2,Q3,Q4,Q5,Q6,Q7,Q8,Q9, e1, e2, k1])
    refine tail ?_
    unfold addP
    split
    · rw [if_neg (fun h => k1 h.1)]
    · rfl
  by_cases h0 : out.length = 0
  · have h0' : ¬ (0 : Int) ≤ (out.length : Int) - 1 := by omega
    (try simp -dsimp (disch := first|exact P5|fail) only [↓P1,P2,↓P4,Q1,Q2,Q3,Q4,Q5,Q6,Q7,Q8,Q9, e1, e2, k1, h0'])
    refine tail ?_
    have : out = [] := List.eq_nil_of_length_eq_zero h0
    subst this
    rfl
  have hn : out.length - 1 < out.length := by omega
  obtain ⟨g, c, cs, ys, eu, hc1, hc2, hr, hm, hle, hat, hset⟩ := Own.cell (n := out.length - 1) (h1.front 2 rfl) hn
  injection eu with eu _ _
  subst eu
  obtain ⟨w, rfl, g1, g2, g3, g4⟩ := RpPt.get (show RpPt X _ _ from hr)
  have y0 : ys[(out.length - 1) * 6]? = some (.int .i64 (out[out.length - 1]).kind) := hat 0 _ rfl
  have y1 : ys[(out.length - 1) * 6 + 1]? = some (.string (bs (out[out.length - 1]).text)) := hat 1 _ rfl
  have y2 : ys[(out.length - 1) * 6 + 2]? = some (.bool (out[out.length - 1]).quote) := hat 2 _ rfl
  have hle2 : (out.length - 1 + 1) * 6 ≤ ys.length := hle
  have hgt : out[out.length - 1]? = some out[out.length - 1] := List.getElem?_eq_getElem hn
  have htx : (out[out.length - 1]).text.length ≤ txt out := by
    have key : ∀ (l : List Pt) (i : Nat) (hi : i < l.length), (l[i]).text.length ≤ txt l := by
      intro l
      induction l with
      | nil => intro i hi; simp at hi
      | cons a l ih =>
        intro i hi
        cases i with
        | zero => simp [txt]
        | succ i => have := ih i (by simpa using hi); simp only [List.getElem_cons_succ, txt]; omega
    exact key _ _ _
  generalize hll : out[out.length - 1] = l at *
  by_cases k2 : l.kind = 1
  rotate_left
  · (try simp -dsimp (disch := first|exact P5|fail) only [↓P1,P2,↓P4,Q1,Q2,Q3,Q4,Q5,Q6,Q7,Q8,Q9, e1, e2, k1, hm, y0, k2])
    refine tail ?_
    unfold addP
    rw [hgt]
    simp only [k2, false_and, and_false, if_false]
  by_cases k3 : l.quote = x.quote
  rotate_left
  · have k3' : (l.quote == x.quote) = false := by simpa using k3
    (try simp -dsimp (disch := first|exact P5|fail) only [↓P1,P2,↓P4,Q1,Q2,Q3,Q4,Q5,Q6,Q7,Q8,Q9, e1, e2, k1, hm, y0, y2, k2, k3'])
    refine tail ?_
    unfold addP
    rw [hgt]
    simp only [k3, and_false, if_false]
  have k3' : (l.quote == x.quote) = true := by simpa using k3
  have h5 := hset 1 (.string (bs (l.text ++ x.text))) (l.more x.text) (by decide) (RpPt.made (p := l.more x.text) (v := w) (by show (l.text ++ x.text).length ≤ maxLen; rw [List.length_append]; unfold maxLen; omega) g2 g3 g4)
  (try simp -dsimp (disch := first|exact P5|fail) only [↓P1,P2,↓P4,Q1,Q2,Q3,Q4,Q5,Q6,Q7,Q8,Q9, e1, e2, k1, hm, y0, y1, y2, k2, k3'])
  have ha : addP out x = out.set (out.length - 1) (l.more x.text) := by
    unfold addP
    rw [hgt]
    simp only [k1, k2, k3, and_self, if_true]
  rw [ha] at hk
  refine hk _ _ (Hs.closed (f := fun u => [Cel p [u, .int .i64 e], E.Own (α := Pt) u (out.set (out.length - 1) (l.more x.text))]) (.slice (some ⟨g, 0, none⟩) out.length uc) trivial ?_)
  exact (h5.front 2 rfl).front 2 rfl |>.drop
end
end Go.Proofs.YtdlimikcgdgfpaaGreatDoor.W05
namespace Go.Proofs.YtdlimikcgdgfpaaGreatDoor.W05
open Tryz renaming prog → PG
open E renaming preR → P1, postR → P2, w_join → P3, w_stop → P4, dsc → P5
open E Go.Lib
open Go.RowKit
theorem litOk {X : Ce} {s : Str} {q : Bool} (hs : s.length ≤ maxLen) : RpPt X (litP s q) (ptC (litP s q) (.slice none 0 0)) := RpPt.leaf hs (by show inI64 1; unfold inI64; omega) (by show inI64 0; unfold inI64; omega) rfl
section
variable {σ σ' : AS} {X : Ce} {R : List Ck} {k : Value → AS → Prop} {p n : Nat} {e : Int} {out : List Pt} {s t : Str} {c : UInt8} {way : Nat} {q : Bool}
theorem lit_c (hf : FitW out n) (hn : n + s.length ≤ 1000000) (h : Hs σ X (Rdr p out e :: R)) (hk : ∀ w σ', Hs σ' X (Rdr p (addP out (litP s q)) e :: R) → k w σ') :
    kCall PG 224 [pv p, .string (bs s), .bool q] σ k := by
  refine f224 ?_
  (simp -dsimp (disch := first|exact P5|fail) only [↓P1,P2,↓P3,Q1,Q2,Q3,Q4,Q5,Q6,Q7,Q8,Q9, F224])
  refine add_c (x := litP s q) (v := .slice none 0 0) (litOk (by unfold maxLen; omega)) (by have := hf.1; omega) (by have := hf.2; show txt out + s.length ≤ _; omega) h fun w σ1 h1 => ?_
  exact hk _ _ h1
end
end Go.Proofs.YtdlimikcgdgfpaaGreatDoor.W05
namespace Go.Proofs.YtdlimikcgdgfpaaGreatDoor.W05
open E Go.Lib
open Go.RowKit
section
variable {σ σ' : AS} {X : Ce} {R : List Ck} {k : Value → AS → Prop} {p n i f : Nat} {e : Int} {out : List Pt} {s t : Str} {c : UInt8} {way : Nat} {q : Bool}
theorem rdr_set (h : Hs σ X (Rdr p out e :: R)) : ∃ u, σ.m p = some (.cells [u, .int .i64 e]) ∧ p < σ.n ∧ (∃ a n c, u = .slice a n c) ∧ ∀ e', Hs (σ.put p (.cells [u, .int .i64 e'])) X (Rdr p out e' :: R) := by
  obtain ⟨u, _, h⟩ := h.opened
  have h : Hs σ X (Cel p [u, .int .i64 e] :: E.Own (α := Pt) u out :: R) := h
  obtain ⟨x, c, hu, _⟩ := h.own1
  exact ⟨u, h.obj, h.lt, ⟨x, _, c, hu⟩, fun e' => Hs.closed (f := fun u => [Cel p [u, .int .i64 e'], E.Own (α := Pt) u out]) u trivial h.put⟩
end
end Go.Proofs.YtdlimikcgdgfpaaGreatDoor.W05
namespace Go.Proofs.YtdlimikcgdgfpaaGreatDoor.W05
open E Go.Lib
open Go.RowKit
section
variable {σ σ' : AS} {X : Ce} {R : List Ck} {k : Value → AS → Prop} {p n i f : Nat} {e : Int} {out : List Pt} {s t : Str} {c : UInt8} {way : Nat} {q : Bool}
theorem Rdr.new (h : Hs σ X R) : Hs (σ.new (.cells [.slice none 0 0, .int .i64 0])) X (Rdr σ.n [] 0 :: R) :=
  Hs.closed (f := fun u => [Cel σ.n [u, .int .i64 0], E.Own (α := Pt) u []]) (.slice none 0 0) trivial (Hs.own0 (α := Pt) h.new).swap
end
end Go.Proofs.YtdlimikcgdgfpaaGreatDoor.W05
namespace Go.Proofs.YtdlimikcgdgfpaaGreatDoor
open Tryz renaming prog → PG
open E renaming preR → P1, postR → P2, w_join → P3, w_stop → P4, dsc → P5
open E Go.Lib W05
def plainB (c : UInt8) : Prop := c.toNat ≠ 92 ∧ c.toNat ≠ 39 ∧ c.toNat ≠ 34 ∧ c.toNat ≠ 40 ∧ c.toNat ≠ 36 ∧ c.toNat ≠ 96
def HereK (t : Str) (w : List Pt) : Prop := ∀ {σ : AS} {X : Ce} {R : List Ck} {k : Value → AS → Prop}, Hs σ X R → (∀ X' v σ', Ce.le X X' → RepL X' v w → Hs σ' X' R → k (.tuple #[v, .int .i64 0]) σ') → kCall PG 101 [.string (bs t)] σ k
section
variable {σ σ' : AS} {X : Ce} {R : List Ck} {k : Value → AS → Prop} {p i : Nat} {s t : Str} {c : UInt8} {b1 b2 : Bool}
abbrev lexC (s : Str) (i : Int) : List Value := [.int .i64 0, .int .i64 0, .string (bs s), .int .i64 i, .int .i64 0]
theorem lthing_p (h : Hs σ X (Cel p (lexC s i) :: R)) (hi : i < s.length) (hp : plainB s[i]) (hs : s.length ≤ 4096) (hk : ∀ w σ', Hs σ' X (Cel p (lexC s ((i : Int) + 1)) :: R) → k w σ') : kCall PG 252 [.pointer (some ⟨p, 0, none⟩), .bool b1, .bool b2, .bool false] σ k := by
  obtain ⟨q1, q2, q3, q4, q5, q6⟩ := hp
  have hx : s[i]? = some s[i] := List.getElem?_eq_getElem hi
  generalize s[i] = c at *
  have e1 : ¬ (c.toNat : Int) = 92 := by omega
  have e2 : ¬ (c.toNat : Int) = 39 := by omega
  have e3 : ¬ (c.toNat : Int) = 34 := by omega
  have e4 : ¬ (c.toNat : Int) = 40 := by omega
  have e5 : ¬ (c.toNat : Int) = 36 := by omega
  have e6 : ¬ (c.toNat : Int) = 96 := by omega
  have h1 := h.new (cs := [.pointer (some ⟨p, 0, none⟩)])
  refine f252 ?_
  (try simp -dsimp (disch := first|exact P5|fail) only [↓P1,P2,↓P4,Q1,Q2,Q3,Q4,Q5,Q6,Q7,Q8,Q9, F252, h1.obj, h1.obj1, hx, Option.getD_some, e1, e2, e3, e4, e5, e6])
  exact hk _ _ h1.put1.drop
theorem piece_p (h : Hs σ X R) (hi : i < s.length) (hp : plainB s[i]) (hs : s.length ≤ 4096) (hk : ∀ σ', Hs σ' X R → k (.tuple #[.int .i64 ((i : Int) + 1), .int .i64 0, .int .i64 0]) σ') : kCall PG 222 [.string (bs s), .int .i64 i, .bool true] σ k := by
  refine f222 ?_
  have e1 : (i : Int) < (s.length : Int) := by omega
  have h1 := h.new (cs := lexC s i)
  (try simp -dsimp (disch := first|exact P5|fail) only [↓P1,P2,↓P4,Q1,Q2,Q3,Q4,Q5,Q6,Q7,Q8,Q9, F222])
  refine join_by fun J1 hJ1 => ?_
  (try simp -dsimp (disch := first|exact P5|fail) only [↓P1,P2,↓P4,Q1,Q2,Q3,Q4,Q5,Q6,Q7,Q8,Q9, e1])
  refine hJ1 _ _ ?_
  (try simp -dsimp (disch := first|exact P5|fail) only [↓P1,P2,↓P4,Q1,Q2,Q3,Q4,Q5,Q6,Q7,Q8,Q9])
  refine lthing_p h1 hi hp hs fun w s1 h2 => ?_
  (try simp -dsimp (disch := first|exact P5|fail) only [↓P1,P2,↓P4,Q1,Q2,Q3,Q4,Q5,Q6,Q7,Q8,Q9])
  refine join_by fun J2 hJ2 => ?_
  refine f253 ?_
  (try simp -dsimp (disch := first|exact P5|fail) only [↓P1,P2,↓P4,Q1,Q2,Q3,Q4,Q5,Q6,Q7,Q8,Q9, F253, h2.obj])
  refine hJ2 _ _ ?_
  (try simp -dsimp (disch := first|exact P5|fail) only [↓P1,P2,↓P4,Q1,Q2,Q3,Q4,Q5,Q6,Q7,Q8,Q9, h2.obj])
  exact hk _ h2.drop
theorem end_p (h : Hs σ X R) (hi : i < s.length) (hp : plainB s[i]) (hs : s.length ≤ 4096) (hk : ∀ σ', Hs σ' X R → k (.tuple #[.int .i64 ((i : Int) + 1), .int .i64 0]) σ') : kCall PG 170 [.string (bs s), .int .i64 i, .int .i64 5] σ k := by
  refine f170 ?_
  have hx : s[i]? = some s[i] := List.getElem?_eq_getElem hi
  have e3 : ¬ ((s[i]).toNat : Int) = 34 := by have := hp.2.2.1; omega
  (try simp -dsimp (disch := first|exact P5|fail) only [↓P1,P2,↓P4,Q1,Q2,Q3,Q4,Q5,Q6,Q7,Q8,Q9, F170])
  refine join_by fun J1 hJ1 => ?_
  (try simp -dsimp (disch := first|exact P5|fail) only [↓P1,P2,↓P4,Q1,Q2,Q3,Q4,Q5,Q6,Q7,Q8,Q9, hx, Option.getD_some, e3])
  refine piece_p h hi hp hs fun s1 h1 => ?_
  (try simp -dsimp (disch := first|exact P5|fail) only [↓P1,P2,↓P4,Q1,Q2,Q3,Q4,Q5,Q6,Q7,Q8,Q9])
  exact hk _ h1
theorem thing_p {out : List Pt} {n : Nat} (hf : FitW out n) (hn : n + 1 ≤ 1000000) (hp : plainB c) (h : Hs σ X (Rdr p out 0 :: R)) (hk : ∀ w σ', Hs σ' X (Rdr p (addP out (litP [c] true)) 0 :: R) → k w σ') :
    kCall PG 171 [.pointer (some ⟨p, 0, none⟩), .string (bs [c]), .int .i64 5] σ k := by
  obtain ⟨q1, q2, q3, q4, q5, q6⟩ := hp
  have hx : ([c] : Str)[0]? = some c := rfl
  have e1 : ¬ (c.toNat : Int) = 92 := by omega
  have e2 : ¬ (c.toNat : Int) = 39 := by omega
  have e3 : ¬ (c.toNat : Int) = 34 := by omega
  have e5 : ¬ (c.toNat : Int) = 36 := by omega
  refine f171 ?_
  (try simp -dsimp (disch := first|exact P5|fail) only [↓P1,P2,↓P4,Q1,Q2,Q3,Q4,Q5,Q6,Q7,Q8,Q9, F171, hx, Option.getD_some, e1, e2, e3, e5])
  refine within_c (way := 5) (by omega) ?_
  (try simp -dsimp (disch := first|exact P5|fail) only [↓P1,P2,↓P4,Q1,Q2,Q3,Q4,Q5,Q6,Q7,Q8,Q9])
  refine lit_c (q := true) hf (by simpa using hn) h fun w s1 h1 => ?_
  (try simp -dsimp (disch := first|exact P5|fail) only [↓P1,P2,↓P4,Q1,Q2,Q3,Q4,Q5,Q6,Q7,Q8,Q9])
  exact hk _ _ h1
theorem here_p (hs : s.length ≤ 1000) (h0 : s ≠ []) (hp : ∀ c, c ∈ s → plainB c) : HereK s [litP s true] := by
  intro σ X R k h hk
  refine f101 ?_
  have e0 : ¬ (4096 : Int) < (s.length : Int) := by omega
  (try simp -dsimp (disch := first|exact P5|fail) only [↓P1,P2,↓P4,Q1,Q2,Q3,Q4,Q5,Q6,Q7,Q8,Q9, F101])
  refine join_by fun J0 hJ0 => ?_
  (try simp -dsimp (disch := first|exact P5|fail) only [↓P1,P2,↓P4,Q1,Q2,Q3,Q4,Q5,Q6,Q7,Q8,Q9, e0])
  refine hJ0 _ _ ?_
  clear hJ0
  (try simp -dsimp (disch := first|exact P5|fail) only [↓P1,P2,↓P4,Q1,Q2,Q3,Q4,Q5,Q6,Q7,Q8,Q9])
  refine f132 ?_
  have h1 := Rdr.new h
  (try simp -dsimp (disch := first|exact P5|fail) only [↓P1,P2,↓P4,Q1,Q2,Q3,Q4,Q5,Q6,Q7,Q8,Q9, F132])
  generalize hs1 : AS.new σ _ = s1 at h1 ⊢
  generalize σ.n = p at h1 ⊢
  refine join_by fun J1 hJ1 => ?_
  have fin : ∀ s2, Hs s2 X (Rdr p [litP s true] 0 :: R) → J1 [] s2 := by
    intro s2 h2
    refine hJ1 _ _ ?_
    obtain ⟨u, _, h3⟩ := h2.opened
    have h3 : Hs s2 X (Cel p [u, .int .i64 0] :: E.Own (α := Pt) u [litP s true] :: R) := h3
    obtain ⟨X', le, r, h4⟩ := h3.drop.keep
    obtain ⟨a, c, rfl, _⟩ := r.val
    (try simp -dsimp (disch := first|exact P5|fail) only [↓P1,P2,↓P4,Q1,Q2,Q3,Q4,Q5,Q6,Q7,Q8,Q9, h3.obj])
    exact hk X' _ _ le r h4
  clear hJ1
  refine loop_inv (fun nn xs s2 => ∃ i : Nat, xs = [.int .i64 i] ∧ i ≤ s.length ∧ Hs s2 X (Rdr p (if i = 0 then [] else [litP (s.take i) true]) 0 :: R) ∧ nn = s.length - i) _ ⟨0, rfl, Nat.zero_le _, h1, rfl⟩ ?_
  rintro _ _ s2 again ⟨i, rfl, hi, h2, rfl⟩ hag
  (try simp -dsimp (disch := first|exact P5|fail) only [↓P1,P2,↓P4,Q1,Q2,Q3,Q4,Q5,Q6,Q7,Q8,Q9])
  refine join_by fun J3 hJ3 => ?_
  by_cases hlt : i < s.length
  · have e1 : (i : Int) < (s.length : Int) := by omega
    have hpc := hp s[i] (List.getElem_mem hlt)
    have hx : s[i]? = some s[i] := List.getElem?_eq_getElem hlt
    have e5 : ¬ ((s[i]).toNat : Int) = 36 := by have := hpc.2.2.2.2.1; omega
    have esub : (s.drop i).take (i + 1 - i) = [s[i]] := by
      rw [show i + 1 - i = 1 from by omega, List.drop_eq_getElem_cons hlt]; rfl
    (try simp -dsimp (disch := first|exact P5|fail) only [↓P1,P2,↓P4,Q1,Q2,Q3,Q4,Q5,Q6,Q7,Q8,Q9, e1])
    refine hJ3 _ _ ?_
    clear hJ3
    (try simp -dsimp (disch := first|exact P5|fail) only [↓P1,P2,↓P4,Q1,Q2,Q3,Q4,Q5,Q6,Q7,Q8,Q9])
    refine join_by fun J4 hJ4 => ?_
    (try simp -dsimp (disch := first|exact P5|fail) only [↓P1,P2,↓P4,Q1,Q2,Q3,Q4,Q5,Q6,Q7,Q8,Q9, hx, Option.getD_some, e5])
    refine hJ4 _ _ ?_
    clear hJ4
    (try simp -dsimp (disch := first|exact P5|fail) only [↓P1,P2,↓P4,Q1,Q2,Q3,Q4,Q5,Q6,Q7,Q8,Q9])
    refine end_p h2 hlt hpc (by omega) fun s3 h3 => ?_
    (try simp -dsimp (disch := first|exact P5|fail) only [↓P1,P2,↓P4,Q1,Q2,Q3,Q4,Q5,Q6,Q7,Q8,Q9])
    refine join_by fun J5 hJ5 => ?_
    (try simp -dsimp (disch := first|exact P5|fail) only [↓P1,P2,↓P4,Q1,Q2,Q3,Q4,Q5,Q6,Q7,Q8,Q9])
    refine hJ5 _ _ ?_
    clear hJ5
    (try simp -dsimp (disch := first|exact P5|fail) only [↓P1,P2,↓P4,Q1,Q2,Q3,Q4,Q5,Q6,Q7,Q8,Q9, esub])
    have hfit : FitW (if i = 0 then [] else [litP (s.take i) true]) 2000 := by
      split
      · exact ⟨Nat.zero_le _, Nat.zero_le _⟩
      · refine ⟨by show (1 : Nat) ≤ 2000; omega, ?_⟩
        simp only [txt, litP, Pt.text, List.length_take]
        omega
    refine thing_p hfit (by omega) hpc h3 fun w s4 h4 => ?_
    have eadd : addP (if i = 0 then [] else [litP (s.take i) true]) (litP [s[i]] true) = [litP (s.take (i + 1)) true] := by
      rw [List.take_succ_eq_append_getElem hlt]
      by_cases hz : i = 0
      · subst hz; rfl
      · rw [if_neg hz]; rfl
    rw [eadd] at h4
    (try simp -dsimp (disch := first|exact P5|fail) only [↓P1,P2,↓P4,Q1,Q2,Q3,Q4,Q5,Q6,Q7,Q8,Q9])
    refine join_by fun J6 hJ6 => ?_
    obtain ⟨u, ep, _, ⟨ua, un, uc, rfl⟩, _⟩ := rdr_set h4
    (try simp -dsimp (disch := first|exact P5|fail) only [↓P1,P2,↓P4,Q1,Q2,Q3,Q4,Q5,Q6,Q7,Q8,Q9, ep])
    refine hJ6 _ _ ?_
    (try simp -dsimp (disch := first|exact P5|fail) only [↓P1,P2,↓P4,Q1,Q2,Q3,Q4,Q5,Q6,Q7,Q8,Q9])
    refine hag _ _ _ ⟨i + 1, rfl, hlt, ?_, rfl⟩ (by omega)
    rw [if_neg (by omega)]
    exact h4
  · obtain rfl : i = s.length := by omega
    rw [if_neg (fun h => h0 (List.eq_nil_of_length_eq_zero h)), List.take_length] at h2
    (try simp -dsimp (disch := first|exact P5|fail) only [↓P1,P2,↓P4,Q1,Q2,Q3,Q4,Q5,Q6,Q7,Q8,Q9])
    exact fin _ h2
end
end Go.Proofs.YtdlimikcgdgfpaaGreatDoor
namespace Go.Proofs.YtdlimikcgdgfpaaGreatDoor
open E renaming preR → P1, postR → P2, w_join → P3, w_stop → P4, dsc → P5
open E Go.Lib S09 G02 V08 W05
def pairsX (L : List FV) : List (Str × Str) := (L.filter fun p => p.2.2.1).map fun p => (p.1, p.2.1)
theorem pairs_step {L : List FV} {j : Nat} (h : j < L.length) : pairsX (L.take (j + 1)) = pairsX (L.take j) ++ (if L[j].2.2.1 = true then [(L[j].1, L[j].2.1)] else []) := by
  rw [List.take_succ_eq_append_getElem h]
  unfold pairsX
  rw [List.filter_append, List.map_append]
  congr 1
  cases hb : L[j].2.2.1 <;> simp [hb]
theorem pairs_len (L : List FV) : (pairsX L).length ≤ L.length := by
  unfold pairsX
  rw [List.length_map]
  exact List.length_filter_le _ _
section
variable {σ σ' : AS} {X : Ce} {R : List Ck} {k : Value → AS → Prop} {p q : Nat} {zero t : Str} {ua wv v u xv : Value} {s s' : XS} {inner : Bool} {x : Pt} {ans l : List Str}
theorem sum_one {g : Nat} {o : Go.Obj} {w : List Pt} {m : List Pc} {n : Int} (hH : HereK t w) (hP : PcsK g o ans w false s s m) (hml : many m ≤ 1000000) (he : s.e = 0) (ho : s.over = false) (hok : VlOk s.v.l) (hl : s.v.l.length ≤ 1000000)
    (hF : ∀ p, p ∈ allV s.v.l → FvOk p) (hle : (allV s.v.l).length = s.v.l.length) (hp2 : ∀ p, p ∈ pairsX (allV s.v.l) → p.2.length ≤ 1000000) (hn : A03.evalG (A03.lookV (pairsX (allV s.v.l))) (A03.evF (oneM m).1) (oneM m).1 = (n, [], 0)) (hn64 : inI64 n) : SumK g o ans t s s (itoa n) := by
  intro σ X R k p q i ua L hg hua h hk
  refine f66 ?_
  (try simp -dsimp (disch := first|exact P5|fail) only [↓P1,P2,↓P4,Q1,Q2,Q3,Q4,Q5,Q6,Q7,Q8,Q9, F66])
  refine hH h fun X1 wv s1 le1 rw1 h1 => ?_
  (try simp -dsimp (disch := first|exact P5|fail) only [↓P1,P2,↓P4,Q1,Q2,Q3,Q4,Q5,Q6,Q7,Q8,Q9])
  refine join_by fun J1 hJ1 => ?_
  (try simp -dsimp (disch := first|exact P5|fail) only [↓P1,P2,↓P4,Q1,Q2,Q3,Q4,Q5,Q6,Q7,Q8,Q9])
  refine hJ1 _ _ ?_
  clear hJ1
  (try simp -dsimp (disch := first|exact P5|fail) only [↓P1,P2,↓P4,Q1,Q2,Q3,Q4,Q5,Q6,Q7,Q8,Q9])
  refine text_x (i := i) hP hml (L.mono le1) hg (hua.mono le1) rw1 h1 fun X2 u2 s2 le2 r2 h2 => ?_
  (try simp -dsimp (disch := first|exact P5|fail) only [↓P1,P2,↓P4,Q1,Q2,Q3,Q4,Q5,Q6,Q7,Q8,Q9])
  refine join_by fun J2 hJ2 => ?_
  refine over_c h2 ?_
  rw [ho]
  (try simp -dsimp (disch := first|exact P5|fail) only [↓P1,P2,↓P4,Q1,Q2,Q3,Q4,Q5,Q6,Q7,Q8,Q9])
  refine hJ2 _ _ ?_
  clear hJ2
  (try simp -dsimp (disch := first|exact P5|fail) only [↓P1,P2,↓P4,Q1,Q2,Q3,Q4,Q5,Q6,Q7,Q8,Q9])
  refine join_by fun J3 hJ3 => ?_
  (try simp -dsimp (disch := first|exact P5|fail) only [↓P1,P2,↓P4,Q1,Q2,Q3,Q4,Q5,Q6,Q7,Q8,Q9, h2.obj])
  refine all_c hok hl h2.swap fun u3 s3 h3 => ?_
  obtain ⟨a, g3, o3, cap, rfl, hle3, hcm, hat⟩ := VarR.get h3
  (try simp -dsimp (disch := first|exact P5|fail) only [↓P1,P2,↓P4,Q1,Q2,Q3,Q4,Q5,Q6,Q7,Q8,Q9])
  generalize hLL : allV s.v.l = L' at *
  unfold maxLen at hcm
  have hlL : L'.length ≤ 1000000 := by omega
  have fin : ∀ s4 pv, Hs s4 X2 (E.Own (α := Str × Str) pv (pairsX L') :: VarR (.slice a L'.length cap) L' :: Vm q sh s.v :: Cel p (xC q ua s) :: R) → J3 [pv] s4 := by
    intro s4 pv h4
    refine hJ3 _ _ ?_
    clear hJ3
    (try simp -dsimp (disch := first|exact P5|fail) only [↓P1,P2,↓P4,Q1,Q2,Q3,Q4,Q5,Q6,Q7,Q8,Q9])
    obtain ⟨X3, le3, r3, h5⟩ := h4.keep
    have h6 : Hs s4 X3 (XL p q sh ua s R) := h5.drop.swap
    have L3 := L.mono (Ce.le_trans (Ce.le_trans le1 le2) le3)
    refine A03.eval_c L3.t L3.e ⟨r3, hp2⟩ (A03.look_all _) (by have om := one_len m ([], []) rfl; rw [← oneM_eq] at om; have := om.2; simp only [List.length_nil] at this; unfold maxLen; omega) (Nat.le_refl _) (i := i + 2) (by simpa using hg) h6 fun u7 X4 s5 le4 r4 h7 => ?_
    rw [hn] at r4 ⊢
    obtain ⟨ea, ec, rfl, _, _⟩ := r4.val
    (try simp -dsimp (disch := first|exact P5|fail) only [↓P1,P2,↓P4,Q1,Q2,Q3,Q4,Q5,Q6,Q7,Q8,Q9])
    refine join_by fun J4 hJ4 => ?_
    have e0 : (A03.txts []).length = 0 := rfl
    (try simp -dsimp (disch := first|exact P5|fail) only [↓P1,P2,↓P4,Q1,Q2,Q3,Q4,Q5,Q6,Q7,Q8,Q9, e0])
    refine loop_inv (fun nn xs s6 => nn = 0 ∧ xs = [.int .i64 0, .int .i64 0] ∧ s5 = s6) _ ⟨rfl, rfl, rfl⟩ ?_
    rintro _ _ s6 again ⟨rfl, rfl, rfl⟩ hag
    (try simp -dsimp (disch := first|exact P5|fail) only [↓P1,P2,↓P4,Q1,Q2,Q3,Q4,Q5,Q6,Q7,Q8,Q9])
    refine join_by fun J6 hJ6 => ?_
    (try simp -dsimp (disch := first|exact P5|fail) only [↓P1,P2,↓P4,Q1,Q2,Q3,Q4,Q5,Q6,Q7,Q8,Q9])
    refine hJ4 _ _ ?_
    obtain ⟨ua1, uc1, rfl, _, _⟩ := hua.val
    (try simp -dsimp (disch := first|exact P5|fail) only [↓P1,P2,↓P4,Q1,Q2,Q3,Q4,Q5,Q6,Q7,Q8,Q9, h7.obj])
    have h8 := h7.put (cs' := [pw q, .slice ua1 ans.length uc1, .int .i64 s.used, .int .i64 0, .bool s.wants, .string (bs s.need), .string (bs s.msg)])
    refine text_c L.t hn64 (i + 2) h8 (by simpa using hg) fun s8 h9 => ?_
    (try simp -dsimp (disch := first|exact P5|fail) only [↓P1,P2,↓P4,Q1,Q2,Q3,Q4,Q5,Q6,Q7,Q8,Q9])
    rw [← he] at h9
    exact hk _ _ (Ce.le_trans (Ce.le_trans (Ce.le_trans le1 le2) le3) le4) h9
  clear hJ3
  refine loop_inv (fun nn xs s4 => ∃ (j : Nat) (pv : Value), xs = [pv, .int .i64 j] ∧ j ≤ L'.length ∧ Hs s4 X2 (E.Own (α := Str × Str) pv (pairsX (L'.take j)) :: VarR (.slice a L'.length cap) L' :: Vm q sh s.v :: Cel p (xC q ua s) :: R) ∧ nn = L'.length - j) _ ⟨0, _, rfl, Nat.zero_le _, h3.own0, rfl⟩ ?_
  rintro _ _ s4 again ⟨j, pv, rfl, hj, h4, rfl⟩ hag
  by_cases hlt : j < L'.length
  · obtain ⟨a', g', o', cap', e6, _, _, hat'⟩ := VarR.get (h4.front 1 rfl)
    injection e6 with e7 e8 e9
    subst e7
    obtain ⟨rfl, hc⟩ := hat' j hlt
    have c0 := hc 0 _ rfl
    have c1 := hc 1 _ rfl
    have c2 := hc 2 _ rfl
    have c3 := hc 3 _ rfl
    have c4 := hc 4 _ rfl
    rw [Nat.add_zero] at c0
    have hfv := hF L'[j] (List.getElem_mem hlt)
    have hpl := pairs_len (L'.take j)
    rw [List.length_take] at hpl
    (try simp -dsimp (disch := first|exact P5|fail) only [↓P1,P2,↓P4,Q1,Q2,Q3,Q4,Q5,Q6,Q7,Q8,Q9])
    refine join_by fun J9 hJ9 => ?_
    (try simp -dsimp (disch := first|exact P5|fail) only [↓P1,P2,↓P4,Q1,Q2,Q3,Q4,Q5,Q6,Q7,Q8,Q9])
    refine hJ9 _ _ ?_
    clear hJ9
    (try simp -dsimp (disch := first|exact P5|fail) only [↓P1,P2,↓P4,Q1,Q2,Q3,Q4,Q5,Q6,Q7,Q8,Q9])
    refine join_by fun J10 hJ10 => ?_
    have h5 := (h4.new (cs := [.string (bs []), .string (bs []), .bool false, .bool false, .bool false])).put (cs' := celF L'[j])
    (try simp -dsimp (disch := first|exact P5|fail) only [↓P1,P2,↓P4,Q1,Q2,Q3,Q4,Q5,Q6,Q7,Q8,Q9, c0, c1, c2, c3, c4])
    generalize hs5 : AS.put _ s4.n _ = s5 at h5 ⊢
    have nxt : ∀ s6 pv', Hs s6 X2 (E.Own (α := Str × Str) pv' (pairsX (L'.take (j + 1))) :: VarR (.slice (some ⟨g', o', none⟩) L'.length cap) L' :: Vm q sh s.v :: Cel p (xC q ua s) :: R) → J10 [pv'] s6 := by
      intro s6 pv' h6
      refine hJ10 _ _ ?_
      (try simp -dsimp (disch := first|exact P5|fail) only [↓P1,P2,↓P4,Q1,Q2,Q3,Q4,Q5,Q6,Q7,Q8,Q9])
      exact hag _ _ _ ⟨j + 1, pv', rfl, hlt, h6, rfl⟩ (by omega)
    clear hJ10 hag
    rw [pairs_step hlt] at nxt
    cases hset : L'[j].2.2.1 with
    | true =>
      rw [if_pos hset] at nxt
      (try simp -dsimp (disch := first|exact P5|fail) only [↓P1,P2,↓P4,Q1,Q2,Q3,Q4,Q5,Q6,Q7,Q8,Q9, h5.obj, hset])
      refine push_by h5.drop (e := 182) (bytes := 32) (by kernel_rfl) (by kernel_rfl) (a := (L'[j].1, L'[j].2.1)) ⟨[_], [_], rfl, ⟨rfl, hfv.1⟩, ⟨rfl, hfv.2⟩⟩ (by omega) (by unfold maxLen; omega) fun v' s6 h6 => ?_
      (try simp -dsimp (disch := first|exact P5|fail) only [↓P1,P2,↓P4,Q1,Q2,Q3,Q4,Q5,Q6,Q7,Q8,Q9])
      exact nxt _ _ h6
    | false =>
      rw [if_neg (by rw [hset]; decide), List.append_nil] at nxt
      (try simp -dsimp (disch := first|exact P5|fail) only [↓P1,P2,↓P4,Q1,Q2,Q3,Q4,Q5,Q6,Q7,Q8,Q9, h5.obj, hset])
      exact nxt _ _ h5.drop
  · obtain rfl : j = L'.length := by omega
    rw [List.take_length] at h4
    (try simp -dsimp (disch := first|exact P5|fail) only [↓P1,P2,↓P4,Q1,Q2,Q3,Q4,Q5,Q6,Q7,Q8,Q9])
    refine join_by fun J9 hJ9 => ?_
    (try simp -dsimp (disch := first|exact P5|fail) only [↓P1,P2,↓P4,Q1,Q2,Q3,Q4,Q5,Q6,Q7,Q8,Q9])
    exact fin _ _ h4
end
end Go.Proofs.YtdlimikcgdgfpaaGreatDoor
namespace Go.Proofs.YtdlimikcgdgfpaaGreatDoor
open Tryz renaming prog → PG
open E renaming preR → P1, postR → P2, w_join → P3, w_stop → P4, dsc → P5
open E Go.Lib S09 G02 V08 W05
abbrev rsC (fv pv : Value) (w : Bool) (need : Str) (used : Int) (msg : Str) : List Value := [fv, pv, .bool w, .string (bs need), .int .i64 used, .string (bs msg)]
def resV (s : XS) (q : Nat) (fv : Value) : Value × Int :=
  if s.wants = true then (.agg (rsC (.slice none 0 0) (.pointer none) true s.need s.used []).toArray, 0)
  else if ¬ s.e = 0 then (.agg (rsC (.slice none 0 0) (.pointer none) false [] 0 s.msg).toArray, s.e)
  else (.agg (rsC fv (pw q) false [] s.used []).toArray, 0)
abbrev x0 (S : VM) : XS := ⟨S, 0, 0, false, [], []⟩
inductive RunK (g : Nat) (o : Go.Obj) (ans : List Str) : List (List Pt) → XS → XS → List Fld → Prop
  | nil (s : XS) : RunK g o ans [] s s []
  | cut (w : List Pt) (ws : List (List Pt)) (s s' : XS) (l : List Pc) (h1 : PcsK g o ans w false s s' l) (h2 : s'.over = true) : RunK g o ans (w :: ws) s s' []
  | cons (w : List Pt) (ws : List (List Pt)) (s s' s'' : XS) (l : List Pc) (fs : List Fld) (h1 : PcsK g o ans w false s s' l) (h2 : s'.over = false) (h3 : many l ≤ 1000000) (h4 : RunK g o ans ws s' s'' fs) : RunK g o ans (w :: ws) s s'' (fieldsM l (ifsX s') ++ fs)
theorem fields_len (l : List Pc) (ifs : Str) : (fieldsM l ifs).length ≤ many l + 1 := by
  have h := bd_fold ifs l SS.bd_zero
  have h2 := SS.bd_fin h
  unfold fieldsM fieldsS
  have := h2.2
  omega
section
variable {σ σ' : AS} {X : Ce} {R : List Ck} {k : Value → AS → Prop} {p q : Nat} {zero t : Str} {ua wv v u xv fv : Value} {s s' : XS} {inner : Bool} {x : Pt} {ans l : List Str}
theorem result_c (h : Hs σ X (XL p q zero ua s R)) (hf : ∃ a n c, fv = .slice a n c) (hk : ∀ σ', Hs σ' X (XL p q zero ua s R) → k (.tuple #[(resV s q fv).1, .int .i64 (resV s q fv).2]) σ') :
    kCall PG 39 [pw p, fv] σ k := by
  obtain ⟨fa, fn, fc, rfl⟩ := hf
  refine f39 ?_
  have h1 := h.new (cs := rsC (.slice none 0 0) (.pointer none) false [] 0 [])
  (try simp -dsimp (disch := first|exact P5|fail) only [↓P1,P2,↓P4,Q1,Q2,Q3,Q4,Q5,Q6,Q7,Q8,Q9, F39])
  generalize hs1 : AS.new σ _ = s1 at h1 ⊢
  generalize σ.n = p4 at h1 ⊢
  refine join_by fun J1 hJ1 => ?_
  unfold resV at hk
  cases hw : s.wants with
  | true =>
    rw [if_pos hw] at hk
    (try simp -dsimp (disch := first|exact P5|fail) only [↓P1,P2,↓P4,Q1,Q2,Q3,Q4,Q5,Q6,Q7,Q8,Q9, h1.obj, h1.obj1, hw])
    exact hk _ h1.put.drop
  | false =>
    rw [if_neg (by rw [hw]; decide)] at hk
    by_cases he : s.e = 0
    · rw [if_neg (fun h => h he)] at hk
      (try simp -dsimp (disch := first|exact P5|fail) only [↓P1,P2,↓P4,Q1,Q2,Q3,Q4,Q5,Q6,Q7,Q8,Q9, h1.obj, h1.obj1, hw, he])
      refine hJ1 _ _ ?_
      (try simp -dsimp (disch := first|exact P5|fail) only [↓P1,P2,↓P4,Q1,Q2,Q3,Q4,Q5,Q6,Q7,Q8,Q9, h1.obj, h1.obj1])
      exact hk _ h1.put.drop
    · rw [if_pos he] at hk
      have h2 := h1.put (cs' := rsC (.slice none 0 0) (.pointer none) false [] 0 s.msg)
      (try simp -dsimp (disch := first|exact P5|fail) only [↓P1,P2,↓P4,Q1,Q2,Q3,Q4,Q5,Q6,Q7,Q8,Q9, h1.obj, h1.obj1, hw, he, h2.obj1])
      exact hk _ h1.put.drop
theorem words_at {l : List (List Pt)} (h : RepL X wv l) : ∃ a b o cap, wv = .slice a l.length cap ∧ l.length ≤ cap ∧ cap ≤ maxLen ∧ ∀ i (hi : i < l.length), a = some ⟨b, o, none⟩ ∧ ∃ u, X b (o + i) = some u ∧ RepL X u l[i] := by
  obtain ⟨a, b, o, cap, h1, h2, h3, h4⟩ := h.get
  refine ⟨a, b, o, cap, h1, h2, h3, fun i hi => ?_⟩
  obtain ⟨h5, cs, h6, _, h7⟩ := h4 i hi
  obtain ⟨u, rfl, h8⟩ := h6
  have := h7 0 _ rfl
  rw [Nat.add_zero] at this
  exact ⟨h5, u, by rw [show o + i = o + i * 1 from by omega]; exact this, h8⟩
theorem expand_c {g i v0 : Nat} {o : Go.Obj} {S : VM} {ws : List (List Pt)} {fs : List Fld} (L : A03.Law X g o) (hg : R[i]? = some (Oth g o)) (hua : RepL X ua ans) (hw : RepL X wv ws) (hn : ws.length ≤ 1000) (har : S.ar.length ≤ 1000000)
    (hr : RunK g o ans ws (x0 S) s' fs) (h : Hs σ X (Vm v0 sh S :: R))
    (hk : ∀ X' fv q σ', Ce.le X X' → RepL (α := Fld) X' fv fs → Hs σ' X' (Vm q sh s'.v :: Vm v0 sh S :: R) → k (.tuple #[(resV s' q fv).1, .int .i64 (resV s' q fv).2]) σ') :
    kCall PG 12 [pw v0, wv, ua] σ k := by
  obtain ⟨wa, wb, wo, wcap, rfl, wc, wm, wat⟩ := words_at hw
  obtain ⟨ua1, uc1, rfl, _, _⟩ := hua.val
  unfold maxLen at wm
  refine f12 ?_
  have h1 := h.new (cs := rsC (.slice none 0 0) (.pointer none) false [] 0 [])
  (try simp -dsimp (disch := first|exact P5|fail) only [↓P1,P2,↓P4,Q1,Q2,Q3,Q4,Q5,Q6,Q7,Q8,Q9, F12])
  generalize hs1 : AS.new σ _ = s1 at h1 ⊢
  generalize σ.n = p4 at h1 ⊢
  refine join_by fun J1 hJ1 => ?_
  (try simp -dsimp (disch := first|exact P5|fail) only [↓P1,P2,↓P4,Q1,Q2,Q3,Q4,Q5,Q6,Q7,Q8,Q9])
  refine hJ1 _ _ ?_
  clear hJ1
  (try simp -dsimp (disch := first|exact P5|fail) only [↓P1,P2,↓P4,Q1,Q2,Q3,Q4,Q5,Q6,Q7,Q8,Q9])
  refine copy_c h1.swap har fun q s2 h2 => ?_
  (try simp -dsimp (disch := first|exact P5|fail) only [↓P1,P2,↓P4,Q1,Q2,Q3,Q4,Q5,Q6,Q7,Q8,Q9])
  have h3 : Hs (s2.new (.cells [pw q, .slice ua1 ans.length uc1, .int .i64 0, .int .i64 0, .bool false, .string (bs []), .string (bs [])])) X (XL s2.n q sh (.slice ua1 ans.length uc1) (x0 S) (Vm v0 sh S :: Cel p4 (rsC (.slice none 0 0) (.pointer none) false [] 0 []) :: R)) := h2.new
  generalize hs3 : AS.new s2 _ = s3 at h3 ⊢
  generalize s2.n = p at h3 ⊢
  refine join_by fun J2 hJ2 => ?_
  have fin : ∀ s4 X1 ov, Ce.le X X1 → Hs s4 X1 (E.Own (α := Fld) ov fs :: XL p q sh (.slice ua1 ans.length uc1) s' (Vm v0 sh S :: Cel p4 (rsC (.slice none 0 0) (.pointer none) false [] 0 []) :: R)) → J2 [ov] s4 := by
    intro s4 X1 ov le1 h4
    refine hJ2 _ _ ?_
    clear hJ2
    obtain ⟨X2, le2, r2, h5⟩ := h4.keep
    obtain ⟨fa, fc, rfl, _, _⟩ := r2.val
    (try simp -dsimp (disch := first|exact P5|fail) only [↓P1,P2,↓P4,Q1,Q2,Q3,Q4,Q5,Q6,Q7,Q8,Q9])
    refine result_c h5 ⟨_, _, _, rfl⟩ fun s5 h6 => ?_
    have h7 : Hs s5 X2 (Cel p4 (rsC (.slice none 0 0) (.pointer none) false [] 0 []) :: Vm q sh s'.v :: Vm v0 sh S :: R) := (h6.front 3 rfl).swap.drop
    have hk' := fun σ' => hk X2 _ q σ' (Ce.le_trans le1 le2) r2
    have hres : ∃ a n c a2 w nd us ms, (resV s' q (.slice fa fs.length fc)).1 = .agg (rsC (.slice a n c) (.pointer a2) w nd us ms).toArray := by
      unfold resV
      split
      · exact ⟨_, _, _, _, _, _, _, _, rfl⟩
      · split
        · exact ⟨_, _, _, _, _, _, _, _, rfl⟩
        · exact ⟨_, _, _, _, _, _, _, _, rfl⟩
    obtain ⟨a, n, c, a2, w, nd, us, ms, e⟩ := hres
    rw [e] at hk' ⊢
    (try simp -dsimp (disch := first|exact P5|fail) only [↓P1,P2,↓P4,Q1,Q2,Q3,Q4,Q5,Q6,Q7,Q8,Q9, h7.obj])
    exact hk' _ (h7.put (cs' := rsC (.slice a n c) (.pointer a2) w nd us ms)).drop
  clear hJ2
  (try simp -dsimp (disch := first|exact P5|fail) only [↓P1,P2,↓P4,Q1,Q2,Q3,Q4,Q5,Q6,Q7,Q8,Q9])
  refine loop_inv (fun nn xs s4 => ∃ (j : Nat) (s1 : XS) (X1 : Ce) (ov : Value) (f1 f2 : List Fld), xs = [ov, .int .i64 j] ∧ j ≤ ws.length ∧ RunK g o ans (ws.drop j) s1 s' f2 ∧ fs = f1 ++ f2 ∧ f1.length ≤ j * 1000001 ∧ Ce.le X X1 ∧
    Hs s4 X1 (E.Own (α := Fld) ov f1 :: XL p q sh (.slice ua1 ans.length uc1) s1 (Vm v0 sh S :: Cel p4 (rsC (.slice none 0 0) (.pointer none) false [] 0 []) :: R)) ∧ nn = ws.length - j) _ ⟨0, x0 S, X, _, [], fs, rfl, Nat.zero_le _, hr, rfl, by simp, Ce.le_refl _, h3.own0, rfl⟩ ?_
  rintro _ _ s4 again ⟨j, s1', X1, ov, f1, f2, rfl, hj, hrun, rfl, hf1, le1, h4, rfl⟩ hag
  by_cases hlt : j < ws.length
  · rw [List.drop_eq_getElem_cons hlt] at hrun
    obtain ⟨rfl, wu, c0, rw0⟩ := wat j hlt
    have d0 := h4.ldx (le1 _ _ _ c0)
    obtain ⟨ea, ec, rfl, _, _⟩ := rw0.val
    (try simp -dsimp (disch := first|exact P5|fail) only [↓P1,P2,↓P4,Q1,Q2,Q3,Q4,Q5,Q6,Q7,Q8,Q9])
    refine join_by fun J4 hJ4 => ?_
    (try simp -dsimp (disch := first|exact P5|fail) only [↓P1,P2,↓P4,Q1,Q2,Q3,Q4,Q5,Q6,Q7,Q8,Q9])
    refine hJ4 _ _ ?_
    clear hJ4
    (try simp -dsimp (disch := first|exact P5|fail) only [↓P1,P2,↓P4,Q1,Q2,Q3,Q4,Q5,Q6,Q7,Q8,Q9])
    refine join_by fun J5 hJ5 => ?_
    (try simp -dsimp (disch := first|exact P5|fail) only [↓P1,P2,↓P4,Q1,Q2,Q3,Q4,Q5,Q6,Q7,Q8,Q9, d0])
    have h5 : Hs s4 X1 (XL p q sh (.slice ua1 ans.length uc1) s1' (E.Own (α := Fld) ov f1 :: Vm v0 sh S :: Cel p4 (rsC (.slice none 0 0) (.pointer none) false [] 0 []) :: R)) := h4.un2
    generalize ws[j] = w at *
    cases hrun with
    | cut _ _ _ _ l2 hp ho =>
      refine hp (L.mono le1) (i := i + 3) (by simpa using hg) (hua.mono le1) (rw0.mono le1) h5 fun u X2 s5 le2 r2 h6 => ?_
      (try simp -dsimp (disch := first|exact P5|fail) only [↓P1,P2,↓P4,Q1,Q2,Q3,Q4,Q5,Q6,Q7,Q8,Q9])
      refine join_by fun J6 hJ6 => ?_
      refine over_c h6 ?_
      rw [ho]
      (try simp -dsimp (disch := first|exact P5|fail) only [↓P1,P2,↓P4,Q1,Q2,Q3,Q4,Q5,Q6,Q7,Q8,Q9])
      rw [List.append_nil] at fin
      exact fin _ _ _ (Ce.le_trans le1 le2) h6.rot2
    | cons _ _ _ s2' _ l2 fs2 hp ho hml hrest =>
      refine hp (L.mono le1) (i := i + 3) (by simpa using hg) (hua.mono le1) (rw0.mono le1) h5 fun u X2 s5 le2 r2 h6 => ?_
      (try simp -dsimp (disch := first|exact P5|fail) only [↓P1,P2,↓P4,Q1,Q2,Q3,Q4,Q5,Q6,Q7,Q8,Q9])
      refine join_by fun J6 hJ6 => ?_
      refine over_c h6 ?_
      rw [ho]
      (try simp -dsimp (disch := first|exact P5|fail) only [↓P1,P2,↓P4,Q1,Q2,Q3,Q4,Q5,Q6,Q7,Q8,Q9])
      refine hJ6 _ _ ?_
      clear hJ6
      (try simp -dsimp (disch := first|exact P5|fail) only [↓P1,P2,↓P4,Q1,Q2,Q3,Q4,Q5,Q6,Q7,Q8,Q9])
      refine ifs_c h6 fun s6 h7 => ?_
      (try simp -dsimp (disch := first|exact P5|fail) only [↓P1,P2,↓P4,Q1,Q2,Q3,Q4,Q5,Q6,Q7,Q8,Q9])
      refine fields_h h7 r2 hml fun X3 v3 s7 le3 r3 h8 => ?_
      have hfl := fields_len l2 (ifsX s2')
      have hb : (f1.length + (fieldsM l2 (ifsX s2')).length) * 40 ≤ 140737488355328 := by
        have : f1.length ≤ 1000 * 1000001 := Nat.le_trans hf1 (Nat.mul_le_mul_right _ (by omega))
        omega
      refine appL_by h8.rot2 r3 (e := 40) (bytes := 40) (by kernel_rfl) (by kernel_rfl) hb (by unfold maxLen; omega) fun v4 s8 h9 => ?_
      (try simp -dsimp (disch := first|exact P5|fail) only [↓P1,P2,↓P4,Q1,Q2,Q3,Q4,Q5,Q6,Q7,Q8,Q9])
      refine hJ5 _ _ ?_
      (try simp -dsimp (disch := first|exact P5|fail) only [↓P1,P2,↓P4,Q1,Q2,Q3,Q4,Q5,Q6,Q7,Q8,Q9])
      refine hag _ _ _ ⟨j + 1, s2', X3, v4, f1 ++ fieldsM l2 (ifsX s2'), fs2, rfl, hlt, hrest, by rw [List.append_assoc], ?_, Ce.le_trans le1 (Ce.le_trans le2 le3), h9, rfl⟩ (by omega)
      rw [List.length_append, Nat.add_mul]
      omega
  · obtain rfl : j = ws.length := by omega
    rw [List.drop_length] at hrun
    cases hrun
    rw [List.append_nil] at fin
    (try simp -dsimp (disch := first|exact P5|fail) only [↓P1,P2,↓P4,Q1,Q2,Q3,Q4,Q5,Q6,Q7,Q8,Q9])
    refine join_by fun J4 hJ4 => ?_
    (try simp -dsimp (disch := first|exact P5|fail) only [↓P1,P2,↓P4,Q1,Q2,Q3,Q4,Q5,Q6,Q7,Q8,Q9])
    exact fin _ _ _ le1 h4
theorem one_x {g i v0 : Nat} {o : Go.Obj} {S : VM} {w : List Pt} {m : List Pc} (L : A03.Law X g o) (hg : R[i]? = some (Oth g o)) (hua : RepL X ua ans) (hw : RepL X wv w) (har : S.ar.length ≤ 1000000) (hP : PcsK g o ans w false (x0 S) s' m) (hml : many m ≤ 1000000) (h : Hs σ X (Vm v0 sh S :: R))
    (hk : ∀ X' fv q σ', Ce.le X X' → RepL (α := Fld) X' fv [oneM m] → Hs σ' X' (Vm q sh s'.v :: Vm v0 sh S :: R) → k (.tuple #[(resV s' q fv).1, .int .i64 (resV s' q fv).2]) σ') :
    kCall PG 15 [pw v0, wv, ua] σ k := by
  obtain ⟨wa, wc, rfl, _, _⟩ := hw.val
  obtain ⟨ua1, uc1, rfl, _, _⟩ := hua.val
  refine f15 ?_
  have h1 := h.new (cs := rsC (.slice none 0 0) (.pointer none) false [] 0 [])
  (try simp -dsimp (disch := first|exact P5|fail) only [↓P1,P2,↓P4,Q1,Q2,Q3,Q4,Q5,Q6,Q7,Q8,Q9, F15])
  generalize hs1 : AS.new σ _ = s1 at h1 ⊢
  generalize σ.n = p4 at h1 ⊢
  refine join_by fun J1 hJ1 => ?_
  (try simp -dsimp (disch := first|exact P5|fail) only [↓P1,P2,↓P4,Q1,Q2,Q3,Q4,Q5,Q6,Q7,Q8,Q9])
  refine hJ1 _ _ ?_
  clear hJ1
  (try simp -dsimp (disch := first|exact P5|fail) only [↓P1,P2,↓P4,Q1,Q2,Q3,Q4,Q5,Q6,Q7,Q8,Q9])
  refine copy_c h1.swap har fun q s2 h2 => ?_
  (try simp -dsimp (disch := first|exact P5|fail) only [↓P1,P2,↓P4,Q1,Q2,Q3,Q4,Q5,Q6,Q7,Q8,Q9])
  have h3 : Hs (s2.new (.cells [pw q, .slice ua1 ans.length uc1, .int .i64 0, .int .i64 0, .bool false, .string (bs []), .string (bs [])])) X (XL s2.n q sh (.slice ua1 ans.length uc1) (x0 S) (Vm v0 sh S :: Cel p4 (rsC (.slice none 0 0) (.pointer none) false [] 0 []) :: R)) := h2.new
  generalize hs3 : AS.new s2 _ = s3 at h3 ⊢
  generalize s2.n = p at h3 ⊢
  refine text_x (i := i + 2) hP hml L (by simpa using hg) hua hw h3 fun X2 u1 s4 le1 r1 h4 => ?_
  have om := one_len m ([], []) rfl
  rw [← oneM_eq] at om
  have oml : (oneM m).1.length ≤ maxLen := by have := om.2; simp only [List.length_nil] at this; unfold maxLen; omega
  generalize hom : oneM m = f at *
  obtain ⟨f1, f2⟩ := f
  obtain ⟨u1a, u1c, rfl, _, _⟩ := r1.val
  have h5 := h4.new (cs := [.string (bs []), .slice none 0 0])
  have h6 := h5.put (cs' := [.string (bs f1), .slice u1a f2.length u1c])
  (try simp -dsimp (disch := first|exact P5|fail) only [↓P1,P2,↓P4,Q1,Q2,Q3,Q4,Q5,Q6,Q7,Q8,Q9, h5.obj, h6.obj])
  generalize hs5 : AS.put _ s4.n _ = s5 at h6 ⊢
  have h7 := (h6.drop.new (cs := [.string (bs f1), .slice u1a f2.length u1c])).lit (l := [((f1, f2) : Fld)]) (n := 1) (RpL.one (α := Fld) ⟨[_], [_], rfl, ⟨rfl, oml⟩, ⟨_, rfl, r1⟩⟩) rfl (by unfold maxLen; omega)
  have hn5 : s5.n = s4.n + 1 := by rw [← hs5]; rfl
  rw [hn5] at h7
  obtain ⟨X3, le3, r3, h8⟩ := h7.keep
  generalize hs6 : AS.new s5 _ = s6 at h8 ⊢
  refine result_c h8 ⟨_, _, _, rfl⟩ fun s7 h9 => ?_
  have h10 : Hs s7 X3 (Cel p4 (rsC (.slice none 0 0) (.pointer none) false [] 0 []) :: Vm q sh s'.v :: Vm v0 sh S :: R) := (h9.front 3 rfl).swap.drop
  have hk' := fun σ' => hk X3 _ q σ' (Ce.le_trans le1 le3) r3
  have hres : ∃ a n c a2 w nd us ms, (resV s' q (.slice (some ⟨s4.n + 1, 0, none⟩) 1 1)).1 = .agg (rsC (.slice a n c) (.pointer a2) w nd us ms).toArray := by
    unfold resV
    split
    · exact ⟨_, _, _, _, _, _, _, _, rfl⟩
    · split
      · exact ⟨_, _, _, _, _, _, _, _, rfl⟩
      · exact ⟨_, _, _, _, _, _, _, _, rfl⟩
  obtain ⟨a, n, c, a2, w, nd, us, ms, e⟩ := hres
  rw [e] at hk' ⊢
  (try simp -dsimp (disch := first|exact P5|fail) only [↓P1,P2,↓P4,Q1,Q2,Q3,Q4,Q5,Q6,Q7,Q8,Q9, h10.obj])
  exact hk' _ (h10.put (cs' := rsC (.slice a n c) (.pointer a2) w nd us ms)).drop
theorem expand_nil {wa : Option Addr} {wn wcp : Nat} (h : Hs σ X R) (hk : ∀ σ', Hs σ' X R → k (.tuple #[.agg (rsC (.slice none 0 0) (.pointer none) false [] 0 []).toArray, .int .i64 2]) σ') :
    kCall PG 12 [.pointer none, .slice wa wn wcp, .slice none 0 0] σ k := by
  refine f12 ?_
  have h1 := h.new (cs := rsC (.slice none 0 0) (.pointer none) false [] 0 [])
  (try simp -dsimp (disch := first|exact P5|fail) only [↓P1,P2,↓P4,Q1,Q2,Q3,Q4,Q5,Q6,Q7,Q8,Q9, F12])
  refine join_by fun J1 hJ1 => ?_
  (try simp -dsimp (disch := first|exact P5|fail) only [↓P1,P2,↓P4,Q1,Q2,Q3,Q4,Q5,Q6,Q7,Q8,Q9, h1.obj])
  exact hk _ h1.put.drop
theorem one_nil {wa : Option Addr} {wn wcp : Nat} (h : Hs σ X R) (hk : ∀ σ', Hs σ' X R → k (.tuple #[.agg (rsC (.slice none 0 0) (.pointer none) false [] 0 []).toArray, .int .i64 2]) σ') :
    kCall PG 15 [.pointer none, .slice wa wn wcp, .slice none 0 0] σ k := by
  refine f15 ?_
  have h1 := h.new (cs := rsC (.slice none 0 0) (.pointer none) false [] 0 [])
  (try simp -dsimp (disch := first|exact P5|fail) only [↓P1,P2,↓P4,Q1,Q2,Q3,Q4,Q5,Q6,Q7,Q8,Q9, F15])
  refine join_by fun J1 hJ1 => ?_
  (try simp -dsimp (disch := first|exact P5|fail) only [↓P1,P2,↓P4,Q1,Q2,Q3,Q4,Q5,Q6,Q7,Q8,Q9, h1.obj])
  exact hk _ h1.put.drop
end
end Go.Proofs.YtdlimikcgdgfpaaGreatDoor
namespace Go.Proofs.YtdlimikcgdgfpaaGreatDoor
open Tryz renaming prog → PG
open E renaming preR → P1, postR → P2, w_join → P3, w_stop → P4, dsc → P5
open E Go.Lib S09 G02 V08 W05
abbrev nilR : Value := .slice none 0 0
section
variable {σ σ' : AS} {X : Ce} {R : List Ck} {k : Value → AS → Prop} {p q : Nat} {zero t : Str} {ua wv v u xv fv : Value} {s s' : XS} {inner : Bool} {x : Pt} {ans l : List Str}
theorem fld_at {l : List Fld} (h : RepL (α := Fld) X fv l) : ∃ a b o cap, fv = .slice a l.length cap ∧ l.length ≤ cap ∧ cap ≤ maxLen ∧ ∀ i (hi : i < l.length), a = some ⟨b, o, none⟩ ∧ l[i].1.length ≤ maxLen ∧ X b (o + i * 2) = some (.string (bs l[i].1)) ∧ ∃ w, X b (o + i * 2 + 1) = some w ∧ RepL X w l[i].2 := by
  obtain ⟨a, b, o, cap, h1, h2, h3, h4⟩ := h.get
  refine ⟨a, b, o, cap, h1, h2, h3, fun i hi => ?_⟩
  obtain ⟨h5, cs, h6, _, h7⟩ := h4 i hi
  obtain ⟨_, _, rfl, ⟨rfl, h8⟩, w, rfl, h9⟩ := h6
  exact ⟨h5, h8, h7 0 _ rfl, w, h7 1 _ rfl, h9⟩
theorem nil_rep {α : Type} [Rp α] (X : Ce) : RepL (α := α) X nilR [] := ⟨none, 0, rfl, Nat.le_refl _, by unfold maxLen; omega, .inl rfl⟩
theorem row_pt (h : Hs σ X R) (hx : RpPt X x (ptC x v)) : ∃ X', Ce.le X X' ∧ RepL X' (.slice (some ⟨σ.n, 0, none⟩) 1 1) [x] ∧ Hs (σ.new (.cells (ptC x v))) X' R :=
  ((h.new (cs := ptC x v)).lit (l := [x]) (n := 1) (RpL.one (α := Pt) hx) rfl (by unfold maxLen; omega)).keep
theorem row_w {w : List Pt} (h : Hs σ X R) (hw : RepL X wv w) : ∃ X', Ce.le X X' ∧ RepL X' (.slice (some ⟨σ.n, 0, none⟩) 1 1) [w] ∧ Hs (σ.new (.cells [wv])) X' R :=
  ((h.new (cs := [wv])).lit (l := [w]) (n := 1) (RpL.one (α := List Pt) ⟨wv, rfl, hw⟩) rfl (by unfold maxLen; omega)).keep
theorem row_s {t : Str} (h : Hs σ X R) (ht : t.length ≤ maxLen) : ∃ X', Ce.le X X' ∧ RepL X' (.slice (some ⟨σ.n, 0, none⟩) 1 1) [t] ∧ Hs (σ.new (.cells [.string (bs t)])) X' R :=
  ((h.new (cs := [.string (bs t)])).lit (l := [t]) (n := 1) (RpL.one (α := Str) ⟨rfl, ht⟩) rfl (by unfold maxLen; omega)).keep
abbrev zPt : List Value := [.int .i64 0, .string (bs []), .bool false, .int .i64 0, .bool false, .slice none 0 0]
theorem mk_pt {v : Value} {K : Value → AS → Prop} (h : Hs σ X R) (hx : RpPt X x (ptC x v)) (hK : ∀ u X' s', Ce.le X X' → RepL X' u [x] → Hs s' X' R → K u s') : kBsl σ 1 zPt [(0, 6, ptV x v)] fun u s => K u s := by
  obtain ⟨X', le, r, h1⟩ := row_pt h hx
  obtain ⟨va, vn, vc, rfl⟩ := hx.val
  (try simp -dsimp (disch := first|exact P5|fail) only [↓P1,P2,↓P4,Q1,Q2,Q3,Q4,Q5,Q6,Q7,Q8,Q9])
  exact hK _ _ _ le r h1
theorem mk_pt2 {v : Value} {zs : List Value} {ls : List (Nat × Nat × Value)} {K : Value → AS → Prop} (h : Hs σ X R) (hx : RpPt X x (ptC x v)) (hb : ∀ K2 : Value → Prop, K2 (ptV x v) → kBuild zs ls K2) (hK : ∀ u X' s', Ce.le X X' → RepL X' u [x] → Hs s' X' R → K u s') :
    kBuild zs ls fun v30 => kBsl σ 1 zPt [(0, 6, v30)] fun u s => K u s := hb _ (mk_pt h hx hK)
theorem mk_w {w : List Pt} {K : Value → AS → Prop} (h : Hs σ X R) (hw : RepL X wv w) (hK : ∀ u X' s', Ce.le X X' → RepL X' u [w] → Hs s' X' R → K u s') : kBsl σ 1 [.slice none 0 0] [(0, 1, wv)] fun u s => K u s := by
  obtain ⟨X', le, r, h1⟩ := row_w h hw
  obtain ⟨va, vc, rfl, _⟩ := hw.val
  (try simp -dsimp (disch := first|exact P5|fail) only [↓P1,P2,↓P4,Q1,Q2,Q3,Q4,Q5,Q6,Q7,Q8,Q9])
  exact hK _ _ _ le r h1
theorem mk_s {t : Str} {K : Value → AS → Prop} (h : Hs σ X R) (ht : t.length ≤ maxLen) (hK : ∀ u X' s', Ce.le X X' → RepL X' u [t] → Hs s' X' R → K u s') : kBsl σ 1 [.string (bs [])] [(0, 1, .string (bs t))] fun u s => K u s := by
  obtain ⟨X', le, r, h1⟩ := row_s h ht
  (try simp -dsimp (disch := first|exact P5|fail) only [↓P1,P2,↓P4,Q1,Q2,Q3,Q4,Q5,Q6,Q7,Q8,Q9])
  exact hK _ _ _ le r h1
theorem take_res {fa : Option Addr} {fn fc : Nat} {pp : Option Addr} {w : Bool} {nd ms : Str} {us e : Int} {K : Value → Value → AS → Prop} (h : Hs σ X R)
    (hK : ∀ a s', Hs s' X (Cel a (rsC (.slice fa fn fc) (.pointer pp) w nd us ms) :: R) → K (.int .i64 e) (pw a) s') :
    kExt 0 (.tuple #[.agg (rsC (.slice fa fn fc) (.pointer pp) w nd us ms).toArray, .int .i64 e]) fun v26 => kExt 1 (.tuple #[.agg (rsC (.slice fa fn fc) (.pointer pp) w nd us ms).toArray, .int .i64 e]) fun v27 =>
      kNew σ [.slice none 0 0, .pointer none, .bool false, .string (bs []), .int .i64 0, .string (bs [])] fun a s => kSt s 6 a v26 fun s => K v27 a s := by
  have h1 := h.new (cs := [.slice none 0 0, .pointer none, .bool false, .string (bs []), .int .i64 0, .string (bs [])])
  (try simp -dsimp (disch := first|exact P5|fail) only [↓P1,P2,↓P4,Q1,Q2,Q3,Q4,Q5,Q6,Q7,Q8,Q9, h1.obj])
  exact hK _ _ h1.put
abbrev vP (name : Str) (q : Bool) : Pt := .mk 2 name q 0 false []
abbrev runP (t : Str) : Pt := .mk 3 t true 0 false []
abbrev litX (t : Str) : Pt := .mk 1 t false 0 false []
theorem ptOk {k o : Int} {q c : Bool} (ht : t.length ≤ maxLen) (hk : 0 ≤ k ∧ k ≤ 10) (ho : 0 ≤ o ∧ o ≤ 10) : RpPt X (.mk k t q o c []) (ptC (.mk k t q o c []) nilR) :=
  RpPt.leaf ht (by show inI64 k; unfold inI64; omega) (by show inI64 o; unfold inI64; omega) rfl
theorem v_c {name : Str} {q : Bool} (h : Hs σ X R) (hk : ∀ σ', Hs σ' X R → k (ptV (vP name q) nilR) σ') : kCall PG 22 [.string (bs name), .bool q] σ k := by
  refine f22 ?_
  have h1 := h.new (cs := [.int .i64 0, .string (bs []), .bool false, .int .i64 0, .bool false, .slice none 0 0])
  (try simp -dsimp (disch := first|exact P5|fail) only [↓P1,P2,↓P4,Q1,Q2,Q3,Q4,Q5,Q6,Q7,Q8,Q9, F22, h1.obj])
  exact hk _ h1.put.drop
theorem var_k {g : Nat} {o : Go.Obj} {name : Str} {q inner : Bool} (ho : s.over = false) (hI : InvP s.v) (ht : name.length ≤ 200) (hpl : (paramV s.v sh name).1.length ≤ 1000000) (hv : ∀ t, t ∈ valsX s (vP name q) → t.length ≤ 200) (hl : (valsX s (vP name q)).length ≤ 20) :
    PcsK g o ans [vP name q] inner s s (giveX s (vP name q) (valsX s (vP name q))) := by
  refine pcs_one (.inr (.inr (.inr (.inr ⟨rfl, var_one (x := vP name q) (.inl ⟨rfl, rfl, rfl⟩) hI ht hpl hv, ?_⟩)))) ho
  unfold giveX
  split
  · simp
  · have := brks_len (vP name q).quote (valsX s (vP name q)); omega
end
abbrev awA : List Str := [[49], [50, 32, 51]]
abbrev awS : VM := ⟨awA, 0, [([120], ⟨[97, 32, 98], true, false, false⟩)]⟩
theorem aw_set : setV ⟨awA, 0, []⟩ [120] [97, 32, 98] = (0, awS) := by kernel_rfl
theorem aw_inv : InvP awS := ⟨by show inI64 0; unfold inI64; omega, by decide, by decide⟩
theorem aw_get : paramV awS sh [120] = ([97, 32, 98], true) := by kernel_rfl
theorem aw_here : HereK [49, 43, 50] [.mk 1 [49, 43, 50] true 0 false []] := here_p (by decide) (by decide) fun c hc => by
  simp only [List.mem_cons, List.not_mem_nil, or_false] at hc
  unfold plainB
  rcases hc with rfl | rfl | rfl <;> decide
theorem aw_all : allV awS.l = [([120], [97, 32, 98], true, false, false)] := by kernel_rfl
theorem aw_sum : A03.evalG (A03.lookV (pairsX [([120], [97, 32, 98], true, false, false)])) (A03.evF [49, 43, 50]) [49, 43, 50] = (3, [], 0) := by kernel_rfl
section
variable {σ σ' : AS} {X : Ce} {R : List Ck} {k : Value → AS → Prop} {g i v0 : Nat} {o : Go.Obj}
theorem aw_p : ∀ x : Pt, (x = vP [120] false ∨ x = vP [120] true ∨ x = vP [64] true) → PcsK g o ([] : List Str) [x] false (x0 awS) (x0 awS) (giveX (x0 awS) x (valsX (x0 awS) x)) := by
  intro x hx
  rcases hx with rfl | rfl | rfl
  · exact var_k rfl aw_inv (by decide) (by rw [show (x0 awS).v = awS from rfl, aw_get]; decide) (by decide) (by decide)
  · exact var_k rfl aw_inv (by decide) (by rw [show (x0 awS).v = awS from rfl, aw_get]; decide) (by decide) (by decide)
  · exact var_k rfl aw_inv (by decide) (by decide) (by decide) (by decide)
abbrev awF : List Fld := [([97], [false]), ([98], [false]), ([97, 32, 98], [true, true, true]), ([49], [true]), ([50, 32, 51], [true, true, true])]
theorem aw_run : RunK g o [] [[vP [120] false], [vP [120] true], [vP [64] true]] (x0 awS) (x0 awS) awF :=
  .cons _ _ _ _ _ _ _ (aw_p _ (.inl rfl)) rfl (by decide) (.cons _ _ _ _ _ _ _ (aw_p _ (.inr (.inl rfl))) rfl (by decide) (.cons _ _ _ _ _ _ _ (aw_p _ (.inr (.inr rfl))) rfl (by decide) (.nil _)))
theorem aw_pb : PcsK g o [[113, 10]] [runP [102]] false (x0 awS) ⟨awS, 1, 0, false, [], []⟩ [([113], true, false, false)] :=
  pcs_one (.inr (.inl ⟨rfl, by decide, rfl, rfl⟩)) rfl
theorem aw_rb : RunK g o [[113, 10]] [[runP [102]]] (x0 awS) ⟨awS, 1, 0, false, [], []⟩ [([113], [true])] :=
  .cons _ _ _ _ _ _ _ aw_pb rfl (by decide) (.nil _)
theorem aw_rc : RunK g o [] [[runP [102]]] (x0 awS) ⟨awS, 0, 0, true, [102], []⟩ [] :=
  .cut _ _ _ _ _ (pcs_one (x := runP [102]) (.inr (.inr (.inl ⟨rfl, rfl, rfl, rfl⟩))) rfl) rfl
theorem lit_k {t : Str} {q inner : Bool} {ans : List Str} {s : XS} (ho : s.over = false) : PcsK g o ans [.mk 1 t q 0 false []] inner s s [(t, q, inner && !q, false)] := pcs_one (x := .mk 1 t q 0 false []) (.inl ⟨rfl, rfl, rfl⟩) ho
abbrev aw_y : Pt := .mk 2 [121] false 4 false [litX [110, 111]]
theorem aw_pd : PcsK g o [] [aw_y] false (x0 awS) ⟨awS, 0, 14, false, [], [110, 111]⟩ [([110, 111], false, true, false)] :=
  pcs_one (x := aw_y) (.inr (.inr (.inr (.inr ⟨rfl, var_one (x := aw_y) (.inr (.inl ⟨rfl, rfl, by decide, _, _, lit_k (t := [110, 111]) (q := false) rfl, by decide, rfl, rfl, rfl⟩)) aw_inv (by decide) (by decide) (by decide), by decide⟩)))) rfl
abbrev aw_q : Pt := .mk 4 [49, 43, 50] false 0 false []
theorem itoa3 : itoa 3 = [51] := by
  unfold itoa
  rw [if_neg (by decide)]
  show decDigits 3 = _
  rw [decDigits, dif_pos (by decide)]
  rfl
theorem aw_pe : PcsK g o [] [aw_q] false (x0 awS) (x0 awS) [([51], false, true, false)] := by
  have hS : SumK g o [] [49, 43, 50] (x0 awS) (x0 awS) (itoa 3) := by
    refine sum_one aw_here (lit_k (t := [49, 43, 50]) (q := true) rfl) (by decide) rfl rfl ?_ (by decide) ?_ ?_ ?_ ?_ (by unfold inI64; omega)
    · intro n hn
      simp only [List.map_cons, List.map_nil, List.mem_singleton] at hn
      subst hn
      exact ⟨by unfold maxLen; decide, by unfold maxLen; decide⟩
    · rw [aw_all]; intro p hp
      simp only [List.mem_singleton] at hp
      subst hp
      exact ⟨by unfold maxLen; decide, by unfold maxLen; decide⟩
    · rw [aw_all]; rfl
    · rw [aw_all]; decide
    · rw [aw_all]; exact aw_sum
  rw [itoa3] at hS
  have hp : PartC g o [] aw_q false (x0 awS) (x0 awS) [([51], false, true, false)] := .inr (.inr (.inr (.inl ⟨rfl, [51], hS, by unfold maxLen; decide, rfl⟩)))
  exact @pcs_one g o _ _ _ _ _ _ hp rfl
end
end Go.Proofs.YtdlimikcgdgfpaaGreatDoor
namespace Go.Proofs.YtdlimikcgdgfpaaGreatDoor
open Tryz renaming prog → PG
open E renaming preR → P1, postR → P2, w_join → P3, w_stop → P4, dsc → P5
open E Go.Lib S09 G02 V08 W05
section
variable {σ σ' : AS} {X : Ce} {R : List Ck} {k : Value → AS → Prop} {g i v0 : Nat} {o : Go.Obj}
theorem awake_x (L : A03.Law X g o) (hg : R[i]? = some (Oth g o)) (h : Hs σ X R) (hk : ∀ X' σ', Ce.le X X' → Hs σ' X' R → k (.bool true) σ') : kCall PG 11 [] σ k := by
  refine f11 ?_
  have hm : ∀ n : Nat, n ≤ 1000 → n ≤ maxLen := fun n h => by unfold maxLen; omega
  have h1 := (h.new (cs := [.string (bs [49]), .string (bs [50, 32, 51])])).lit (l := awA) (n := 2) ⟨[_], _, rfl, ⟨rfl, hm _ (by decide)⟩, RpL.one (α := Str) ⟨rfl, hm _ (by decide)⟩⟩ rfl (by unfold maxLen; omega)
  obtain ⟨X1, le1, r1, h2⟩ := h1.keep
  (try simp -dsimp (disch := first|exact P5|fail) only [↓P1,P2,↓P4,Q1,Q2,Q3,Q4,Q5,Q6,Q7,Q8,Q9, F11])
  refine vnew_c (zero := sh) h2 (TxS.rep h2 r1) (by decide) fun v s1 h3 => ?_
  (try simp -dsimp (disch := first|exact P5|fail) only [↓P1,P2,↓P4,Q1,Q2,Q3,Q4,Q5,Q6,Q7,Q8,Q9])
  refine set_c (S := ⟨awA, 0, []⟩) (n := [120]) (val := [97, 32, 98]) h3 (hm _ (by decide)) fun s2 h4 => ?_
  rw [aw_set] at h4
  (try simp -dsimp (disch := first|exact P5|fail) only [↓P1,P2,↓P4,Q1,Q2,Q3,Q4,Q5,Q6,Q7,Q8,Q9])
  refine v_c h4 fun s3 h5 => ?_
  refine mk_pt h5 (ptOk (k := 2) (o := 0) (q := false) (c := false) (t := [120]) (hm _ (by decide)) (by decide) (by decide)) fun u1 X2 s3 le2 r2 h6 => ?_
  refine v_c h6 fun s4 h7 => ?_
  refine mk_pt h7 (ptOk (k := 2) (o := 0) (q := true) (c := false) (t := [120]) (hm _ (by decide)) (by decide) (by decide)) fun u2 X3 s4 le3 r3 h8 => ?_
  refine v_c h8 fun s5 h9 => ?_
  refine mk_pt h9 (ptOk (k := 2) (o := 0) (q := true) (c := false) (t := [64]) (hm _ (by decide)) (by decide) (by decide)) fun u3 X4 s5 le4 r4 h10 => ?_
  have h11 := (h10.new (cs := [u1, u2, u3])).lit (l := [[vP [120] false], [vP [120] true], [vP [64] true]]) (n := 3)
    ⟨[_], _, rfl, ⟨_, rfl, (r2.mono le3).mono le4⟩, [_], _, rfl, ⟨_, rfl, r3.mono le4⟩, RpL.one (α := List Pt) ⟨_, rfl, r4⟩⟩ rfl (by unfold maxLen; omega)
  obtain ⟨X5, le5, r5, h12⟩ := h11.keep
  have le15 : Ce.le X X5 := Ce.le_trans le1 (Ce.le_trans le2 (Ce.le_trans le3 (Ce.le_trans le4 le5)))
  obtain ⟨_, _, rfl, _⟩ := r2.val
  obtain ⟨_, _, rfl, _⟩ := r3.val
  obtain ⟨_, _, rfl, _⟩ := r4.val
  (try simp -dsimp (disch := first|exact P5|fail) only [↓P1,P2,↓P4,Q1,Q2,Q3,Q4,Q5,Q6,Q7,Q8,Q9])
  refine expand_c (L.mono le15) hg (nil_rep X5) r5 (by decide) (by decide) aw_run h12 fun X6 fa q1 s7 le6 r6 h13 => ?_
  clear h11 h10 h9 h8 h7 h6 h5 h4 h3 h2 h1
  obtain ⟨aa, ab, ao, ac, rfl, _, am, aat⟩ := fld_at r6
  obtain ⟨rfl, _, a2, _⟩ := aat 2 (by decide)
  replace a2 : X6 ab (ao + 2 * 2) = some (.string (bs [97, 32, 98])) := a2
  refine take_res (fn := 5) (w := false) (nd := []) (us := 0) (ms := []) (e := 0) h13.drop fun ca s8 h15 => ?_
  refine mk_pt2 h15 (ptOk (k := 3) (o := 0) (q := true) (c := false) (t := [102]) (hm _ (by decide)) (by decide) (by decide)) (fun K2 h => by (try simp -dsimp (disch := first|exact P5|fail) only [↓P1,P2,↓P4,Q1,Q2,Q3,Q4,Q5,Q6,Q7,Q8,Q9]); exact h) fun u4 X7 s9 le7 r7 h16 => ?_
  refine mk_w h16 r7 fun u5 X8 s10 le8 r8 h17 => ?_
  refine mk_s h17 (t := [113, 10]) (hm _ (by decide)) fun u6 X9 s11 le9 r9 h18 => ?_
  have le19 : Ce.le X X9 := Ce.le_trans le15 (Ce.le_trans le6 (Ce.le_trans le7 (Ce.le_trans le8 le9)))
  refine expand_c (i := i + 1) (L.mono le19) (by simpa using hg) r9 (r8.mono le9) (by decide) (by decide) aw_rb h18.swap fun X10 fb q2 s12 le10 r10 h19 => ?_
  obtain ⟨ba, bb, bo, bc, rfl, _, bm, bat⟩ := fld_at r10
  obtain ⟨rfl, _, b0, _⟩ := bat 0 (by decide)
  replace b0 : X10 bb bo = some (.string (bs [113])) := b0
  refine take_res (fn := 1) (w := false) (nd := []) (us := 1) (ms := []) (e := 0) h19.drop fun cb s13 h20 => ?_
  refine mk_pt2 h20 (ptOk (k := 3) (o := 0) (q := true) (c := false) (t := [102]) (hm _ (by decide)) (by decide) (by decide)) (fun K2 h => by (try simp -dsimp (disch := first|exact P5|fail) only [↓P1,P2,↓P4,Q1,Q2,Q3,Q4,Q5,Q6,Q7,Q8,Q9]); exact h) fun u7 X11 s14 le11 r11 h21 => ?_
  refine mk_w h21 r11 fun u8 X12 s15 le12 r12 h22 => ?_
  have le112 : Ce.le X X12 := Ce.le_trans le19 (Ce.le_trans le10 (Ce.le_trans le11 le12))
  refine expand_c (i := i + 2) (L.mono le112) (by simpa using hg) (nil_rep X12) r12 (by decide) (by decide) aw_rc h22.swap fun X13 fc q3 s16 le13 r13 h23 => ?_
  refine take_res (fa := none) (fn := 0) (fc := 0) (pp := none) (w := true) (nd := [102]) (us := 0) (ms := []) (e := 0) h23.drop fun cc s17 h24 => ?_
  refine mk_pt2 h24 (ptOk (k := 1) (o := 0) (q := false) (c := false) (t := [110, 111]) (hm _ (by decide)) (by decide) (by decide)) (fun K2 h => by (try simp -dsimp (disch := first|exact P5|fail) only [↓P1,P2,↓P4,Q1,Q2,Q3,Q4,Q5,Q6,Q7,Q8,Q9]); exact h) fun u9 X14 s18 le14 r14 h25 => ?_
  obtain ⟨ya, yc, rfl, _⟩ := r14.val
  refine mk_pt2 h25 (x := aw_y) (RpPt.made (hm _ (by decide)) (by show inI64 2; unfold inI64; omega) (by show inI64 4; unfold inI64; omega) r14) (fun K2 h => by (try simp -dsimp (disch := first|exact P5|fail) only [↓P1,P2,↓P4,Q1,Q2,Q3,Q4,Q5,Q6,Q7,Q8,Q9]); exact h) fun u10 X15 s19 le15' r15 h26 => ?_
  have le115 : Ce.le X X15 := Ce.le_trans le112 (Ce.le_trans le13 (Ce.le_trans le14 le15'))
  refine one_x (i := i + 3) (L.mono le115) (by simpa using hg) (nil_rep X15) r15 (by decide) aw_pd (by decide) h26.swap fun X16 fd q4 s20 le16 r16 h27 => ?_
  refine take_res (fa := none) (fn := 0) (fc := 0) (pp := none) (w := false) (nd := []) (us := 0) (ms := [110, 111]) (e := 14) h27.drop fun cd s21 h28 => ?_
  refine mk_pt2 h28 (x := aw_q) (ptOk (k := 4) (o := 0) (q := false) (c := false) (t := [49, 43, 50]) (hm _ (by decide)) (by decide) (by decide)) (fun K2 h => by (try simp -dsimp (disch := first|exact P5|fail) only [↓P1,P2,↓P4,Q1,Q2,Q3,Q4,Q5,Q6,Q7,Q8,Q9]); exact h) fun u11 X17 s22 le17 r17 h29 => ?_
  have le117 : Ce.le X X17 := Ce.le_trans le115 (Ce.le_trans le16 le17)
  refine one_x (i := i + 4) (L.mono le117) (by simpa using hg) (nil_rep X17) r17 (by decide) aw_pe (by decide) h29.swap fun X18 fe q5 s23 le18 r18 h30 => ?_
  obtain ⟨ea, eb, eo, ec, rfl, _, em, eat⟩ := fld_at r18
  obtain ⟨rfl, _, e0, _⟩ := eat 0 (by decide)
  replace e0 : X18 eb eo = some (.string (bs [51])) := e0
  refine take_res (fn := 1) (w := false) (nd := []) (us := 0) (ms := []) (e := 0) h30.drop fun ce s24 h31 => ?_
  have f0 := h31.ldx e0
  have f1 := h31.ldx (le18 _ _ _ (le17 _ _ _ (le16 _ _ _ (le15' _ _ _ (le14 _ _ _ (le13 _ _ _ (le12 _ _ _ (le11 _ _ _ b0))))))))
  have f2 := h31.ldx (le18 _ _ _ (le17 _ _ _ (le16 _ _ _ (le15' _ _ _ (le14 _ _ _ (le13 _ _ _ (le12 _ _ _ (le11 _ _ _ (le10 _ _ _ (le9 _ _ _ (le8 _ _ _ (le7 _ _ _ a2))))))))))))
  have h32 := h31.swap.drop
  have o1 := h31.obj
  have o2 := h32.obj1
  have o3 := h32.obj2
  have o4 := h32.obj3
  have o5 := h32.obj4
  (try simp -dsimp (disch := first|exact P5|fail) only [↓P1,P2,↓P4,Q1,Q2,Q3,Q4,Q5,Q6,Q7,Q8,Q9, o1, o2, o3, o4, o5, f0, f1, f2])
  exact hk X18 _ (Ce.le_trans le117 le18) h32.drop.drop.drop.drop.drop
end
end Go.Proofs.YtdlimikcgdgfpaaGreatDoor
