/- Words: whether two are the same. Conditions: as each theorem says. -/
import Derived.Test.YtdlimikcgdgfpaaGreatDoorY3
import Derived.Test.YtdlimikcgdgfpaaGreatDoorY2
import Derived.Test.YtdlimikcgdgfpaaGreatDoorY5
import Derived.Test.YtdlimikcgdgfpaaGreatDoorY1
set_option linter.unusedVariables false
set_option linter.unusedSimpArgs false
set_option maxHeartbeats 4000000
set_option maxRecDepth 100000
open Nat renaming reduceEqDiff → Q1, reduceAdd → Q2, reduceSub → Q3, reduceMul → Q4, reduceLT → Q5, reduceLeDiff → Q6, sub_zero → Q7
open Int renaming reduceNeg → Q8, reduceToNat → Q9
namespace Go.Proofs.YtdlimikcgdgfpaaGreatDoor.W05
open E Go.Lib
open Go.RowKit
theorem szPt_word (p : Pt) : szW p.word < szPt p := by
  cases p with
  | mk k t q o c w => unfold szPt; show szW w < _; omega
end Go.Proofs.YtdlimikcgdgfpaaGreatDoor.W05
namespace Go.Proofs.YtdlimikcgdgfpaaGreatDoor.W05
open Tryz renaming prog → PG
open E renaming preR → P1, postR → P2, w_join → P3, w_stop → P4, dsc → P5
open E Go.Lib
open Go.RowKit
theorem arg_wordA {H : Type} {enc : TypeId × Value → H} {w : World} {base : Nat} {spare : Nat → Bool} {held : Bool} {r : Reach} {b0 : Nat} {v : Value} {d : DataW H} {ps : List MemPlace} (hval : Value.okWide PG w r b0 27 v) (h : DataW.Trod enc PG w base spare held 27 v d ps) :
    ∃ l : List Pt, RepL (E.start w).c v l := arg_word h (by obtain ⟨a, b, c, rfl⟩ := Go.WideShapes.okWide_slice Tryz.underlying27 hval; rfl)
def SzK (w : List Pt) (m : Int) : Prop := inI64 m ∧ (szW w < 4611686018427387904 → 0 ≤ m ∧ m ≤ szW w ∧ (m ≤ 600 → m = szW w))
theorem wrapI (n : Int) : inI64 (IntKind.i64.wrap n) := by
  rw [IntKind.wrap_i64]; unfold inI64; omega
theorem sz_drop : ∀ (w : List Pt) (i : Nat) (hi : i < w.length), szW (w.drop i) = szPt w[i] + szW (w.drop (i + 1))
  | [], i, hi => by simp at hi
  | p :: l, 0, hi => by simp [szW]
  | p :: l, i + 1, hi => by
    have := sz_drop l i (by simpa using hi)
    simpa using this
theorem szPt_def (p : Pt) : szPt p = 1 + p.text.length + szW p.word := by
  cases p; unfold szPt; rfl
theorem size_c : ∀ (n : Nat) {σ : AS} {X : Ce} {R : List Ck} {k : Value → AS → Prop} {w : List Pt} {v : Value}, szW w < n → RepL X v w → Hs σ X R → (∀ m σ', SzK w m → Hs σ' X R → k (.int .i64 m) σ') → kCall PG 46 [v] σ k := by
  intro n
  induction n with
  | zero => intro σ X R k w v hn; omega
  | succ n ih =>
    intro σ X R k w v hn hv h hk
    obtain ⟨a, b, o, cap, rfl, hc, hm, hat⟩ := pts_at hv
    unfold maxLen at hm
    refine f46 ?_
    (try simp -dsimp (disch := first|exact P5|fail) only [↓P1,P2,↓P4,Q1,Q2,Q3,Q4,Q5,Q6,Q7,Q8,Q9, F46])
    refine join_now ?_
    refine loop_inv (fun nn xs s2 => ∃ (j : Nat) (m : Int), xs = [.int .i64 m, .int .i64 j] ∧ j ≤ w.length ∧ Hs s2 X R ∧ inI64 m ∧ (szW w < 4611686018427387904 → 0 ≤ m ∧ m + szW (w.drop j) ≤ szW w ∧ (m ≤ 600 → m + szW (w.drop j) = szW w)) ∧ nn = w.length - j) _
      ⟨0, 0, rfl, Nat.zero_le _, h, by unfold inI64; omega, fun _ => ⟨by omega, by simp, fun _ => by simp⟩, rfl⟩ ?_
    rintro _ _ s2 again ⟨j, m, rfl, hj, h2, hmi, hmk, rfl⟩ hag
    unfold inI64 at hmi
    (try simp -dsimp (disch := first|exact P5|fail) only [↓P1,P2,↓P4,Q1,Q2,Q3,Q4,Q5,Q6,Q7,Q8,Q9])
    refine join_now ?_
    by_cases hlt : j < w.length
    rotate_left
    · rw [List.drop_of_length_le (by omega)] at hmk
      have h0 : szW ([] : List Pt) = 0 := by simp [szW]
      rw [h0] at hmk
      (try simp -dsimp (disch := first|exact P5|fail) only [↓P1,P2,↓P4,Q1,Q2,Q3,Q4,Q5,Q6,Q7,Q8,Q9])
      exact hk m _ ⟨hmi, fun hs => by have := hmk hs; exact ⟨this.1, by omega, fun h6 => by have := this.2.2 h6; omega⟩⟩ h2
    by_cases h6 : m ≤ 600
    rotate_left
    · (try simp -dsimp (disch := first|exact P5|fail) only [↓P1,P2,↓P4,Q1,Q2,Q3,Q4,Q5,Q6,Q7,Q8,Q9])
      exact hk m _ ⟨hmi, fun hs => by have := hmk hs; exact ⟨this.1, by omega, fun h7 => by omega⟩⟩ h2
    rw [sz_drop w j hlt] at hmk
    have hszl := sz_get w j hlt
    obtain ⟨rfl, u, g0, g1, g2, g3, g4, c0, c1, c2, c3, c4, c5⟩ := hat j hlt
    generalize w[j] = x at *
    have hszx := szPt_word x
    have hdf := szPt_def x
    have d1 := h2.ldx c1
    have d5 := h2.ldx c5
    unfold maxLen at g2
    (try simp -dsimp (disch := first|exact P5|fail) only [↓P1,P2,↓P4,Q1,Q2,Q3,Q4,Q5,Q6,Q7,Q8,Q9])
    refine join_now ?_
    (try simp -dsimp (disch := first|exact P5|fail) only [↓P1,P2,↓P4,Q1,Q2,Q3,Q4,Q5,Q6,Q7,Q8,Q9, d1, d5])
    refine ih (by omega) g1 h2 fun m2 s3 hm2 h3 => ?_
    have e1 := h3.ldx c1
    obtain ⟨hm2i, hm2k⟩ := hm2
    (try simp -dsimp (disch := first|exact P5|fail) only [↓P1,P2,↓P4,Q1,Q2,Q3,Q4,Q5,Q6,Q7,Q8,Q9, e1])
    refine hag _ _ _ ⟨j + 1, _, rfl, hlt, h3, wrapI _, fun hs => ?_, rfl⟩ (by omega)
    obtain ⟨a1, a2, a3⟩ := hmk hs
    obtain ⟨b1, b2, b3⟩ := hm2k (by omega)
    have a3 := a3 h6
    generalize hmin : (if (1000 : Int) < (x.text.length : Int) then (1000 : Int) else (x.text.length : Int)) = tm
    have htm : 0 ≤ tm ∧ tm ≤ x.text.length ∧ (tm < 1000 → tm = x.text.length) := by
      rw [← hmin]
      split
      · exact ⟨by omega, by omega, fun h => by omega⟩
      · exact ⟨by omega, by omega, fun _ => rfl⟩
    rw [wrap64 _ (by omega) (by omega)]
    refine ⟨by omega, by omega, fun h => ?_⟩
    have := b3 (by omega)
    have := htm.2.2 (by omega)
    omega
end Go.Proofs.YtdlimikcgdgfpaaGreatDoor.W05
namespace Go.Proofs.YtdlimikcgdgfpaaGreatDoor
open Tryz renaming prog → PG
open E renaming preR → P1, postR → P2, w_join → P3, w_stop → P4, dsc → P5
open E Go.Lib S09 G02 V08 W05
section
variable {σ σ' : AS} {X : Ce} {R : List Ck} {k : Value → AS → Prop} {g i v0 : Nat} {o : Go.Obj} {lv wv : Value} {w : List Pt}
theorem words1_c (h : Hs σ X R) (hl : RepL X lv [w]) (hk : ∀ b σ', Hs σ' X R → k (.bool b) σ') : kCall PG 18 [lv] σ k := by
  obtain ⟨a, b, o, cap, rfl, hc, hm, hat⟩ := words_at hl
  obtain ⟨rfl, wv, c0, hw⟩ := hat 0 (by simp)
  rw [Nat.add_zero] at c0
  replace hw : RepL X wv w := hw
  have d0 := h.ldx c0
  obtain ⟨wa, wc, rfl, _⟩ := hw.val
  unfold maxLen at hm
  refine f18 ?_
  (try simp -dsimp (disch := first|exact P5|fail) only [↓P1,P2,↓P4,Q1,Q2,Q3,Q4,Q5,Q6,Q7,Q8,Q9, F18])
  refine join_by fun J1 hJ1 => ?_
  have fin : ∀ n s1, Hs s1 X R → J1 [.int .i64 n] s1 := by
    intro n s1 h1
    refine hJ1 _ _ ?_
    (try simp -dsimp (disch := first|exact P5|fail) only [↓P1,P2,↓P4,Q1,Q2,Q3,Q4,Q5,Q6,Q7,Q8,Q9])
    exact hk _ _ h1
  clear hJ1 hk
  refine loop_inv (fun nn xs s1 => (nn = 1 ∧ xs = [.int .i64 0, .int .i64 0] ∧ σ = s1) ∨ (nn = 0 ∧ ∃ n, xs = [.int .i64 n, .int .i64 1] ∧ Hs s1 X R)) _ (.inl ⟨rfl, rfl, rfl⟩) ?_
  rintro _ _ s1 again (⟨rfl, rfl, rfl⟩ | ⟨rfl, n, rfl, h1⟩) hag
  · (try simp -dsimp (disch := first|exact P5|fail) only [↓P1,P2,↓P4,Q1,Q2,Q3,Q4,Q5,Q6,Q7,Q8,Q9])
    refine join_by fun J3 hJ3 => ?_
    (try simp -dsimp (disch := first|exact P5|fail) only [↓P1,P2,↓P4,Q1,Q2,Q3,Q4,Q5,Q6,Q7,Q8,Q9])
    refine hJ3 _ _ ?_
    clear hJ3
    (try simp -dsimp (disch := first|exact P5|fail) only [↓P1,P2,↓P4,Q1,Q2,Q3,Q4,Q5,Q6,Q7,Q8,Q9])
    refine join_by fun J4 hJ4 => ?_
    (try simp -dsimp (disch := first|exact P5|fail) only [↓P1,P2,↓P4,Q1,Q2,Q3,Q4,Q5,Q6,Q7,Q8,Q9, d0])
    refine size_c (szW w + 1) (by omega) hw h fun m s2 _ h2 => ?_
    (try simp -dsimp (disch := first|exact P5|fail) only [↓P1,P2,↓P4,Q1,Q2,Q3,Q4,Q5,Q6,Q7,Q8,Q9])
    refine hJ4 _ _ ?_
    (try simp -dsimp (disch := first|exact P5|fail) only [↓P1,P2,↓P4,Q1,Q2,Q3,Q4,Q5,Q6,Q7,Q8,Q9])
    exact hag _ _ _ (.inr ⟨rfl, _, rfl, h2⟩) (by omega)
  · (try simp -dsimp (disch := first|exact P5|fail) only [↓P1,P2,↓P4,Q1,Q2,Q3,Q4,Q5,Q6,Q7,Q8,Q9])
    refine join_by fun J3 hJ3 => ?_
    (try simp -dsimp (disch := first|exact P5|fail) only [↓P1,P2,↓P4,Q1,Q2,Q3,Q4,Q5,Q6,Q7,Q8,Q9])
    exact fin _ _ h1
theorem nil_walk (L : A03.Law X g o) (h : Hs σ X [Oth g o]) (hw : RepL X wv w) (hk : ∀ X' σ', Ce.le X X' → Hs σ' X' [Oth g o] → k (.bool true) σ') : kCall PG 5 [wv] σ k := by
  refine f5 ?_
  obtain ⟨wa, wc, rfl, _⟩ := hw.val
  (try simp -dsimp (disch := first|exact P5|fail) only [↓P1,P2,↓P4,Q1,Q2,Q3,Q4,Q5,Q6,Q7,Q8,Q9, F5])
  refine join_by fun J1 hJ1 => ?_
  refine mk_w h hw fun u X1 s1 le1 r1 h1 => ?_
  obtain ⟨ua, uc, rfl, _⟩ := r1.val
  refine words1_c h1 r1 fun b s2 h2 => ?_
  cases b with
  | false =>
    (try simp -dsimp (disch := first|exact P5|fail) only [↓P1,P2,↓P4,Q1,Q2,Q3,Q4,Q5,Q6,Q7,Q8,Q9])
    refine awake_x (L.mono le1) (i := 0) rfl h2 fun X2 s3 le2 h3 => ?_
    exact hk _ _ (Ce.le_trans le1 le2) h3
  | true =>
    (try simp -dsimp (disch := first|exact P5|fail) only [↓P1,P2,↓P4,Q1,Q2,Q3,Q4,Q5,Q6,Q7,Q8,Q9])
    refine hJ1 _ _ ?_
    clear hJ1
    refine mk_w h2 (hw.mono le1) fun u2 X3 s4 le3 r3 h4 => ?_
    obtain ⟨ub, ubc, rfl, _⟩ := r3.val
    refine expand_nil h4 fun s5 h5 => ?_
    refine take_res (fn := 0) (w := false) (nd := []) (us := 0) (ms := []) (e := 2) h5 fun ca s6 h6 => ?_
    refine one_nil h6 fun s7 h7 => ?_
    refine take_res (fn := 0) (w := false) (nd := []) (us := 0) (ms := []) (e := 2) h7 fun cb s8 h8 => ?_
    have o1 := h8.obj
    have o2 := h8.obj1
    (try simp -dsimp (disch := first|exact P5|fail) only [↓P1,P2,↓P4,Q1,Q2,Q3,Q4,Q5,Q6,Q7,Q8,Q9, o1, o2])
    refine awake_x (L.mono (Ce.le_trans le1 le3)) (i := 2) rfl h8 fun X2 s3 le2 h3 => ?_
    (try simp -dsimp (disch := first|exact P5|fail) only [↓P1,P2,↓P4,Q1,Q2,Q3,Q4,Q5,Q6,Q7,Q8,Q9])
    exact hk _ _ (Ce.le_trans (Ce.le_trans le1 le3) le2) h3.drop.drop
end
theorem pt_data {c : Ce} {p : Pt} {cs : List Value} (h : RpPt c p cs) : ∀ v, v ∈ cs → dataV v := by
  intro v hv
  cases h with
  | mk kind text quote op colon w a cap b o f ht hk ho hc hm ha hr =>
    simp only [List.mem_cons, List.not_mem_nil, or_false] at hv
    rcases hv with rfl | rfl | rfl | rfl | rfl | rfl <;> exact trivial
theorem pt_off {w : World} {gs : List Nat} (hg : ∀ g o v, g ∈ gs → w.cell? ⟨g, o, none⟩ = some v → ¬ dataV v) {p : Pt} {cs : List Value} (h : RpPt (E.start w).c p cs) : RpPt (startT w gs).c p cs := by
  induction h with
  | mk kind text quote op colon w' a cap b o f ht hk ho hcap hm ha hr ih =>
    refine .mk kind text quote op colon w' a cap b o f ht hk ho hcap hm ?_ ih
    rcases ha with ha | ⟨ha, hb⟩
    · exact .inl ha
    · refine .inr ⟨ha, fun i hi j v hv => ?_⟩
      have h1 : w.cell? ⟨b, o + i * 6 + j, none⟩ = some v := hb i hi j v hv
      have h2 := pt_data (hr i hi) v (List.mem_of_getElem? hv)
      show (if b ∈ gs then none else w.cell? ⟨b, o + i * 6 + j, none⟩) = some v
      rw [if_neg (fun hb => hg b _ v hb h1 h2)]
      exact h1
instance : OffT Pt := ⟨fun hg h => ⟨pt_off hg h, pt_data h⟩⟩
section
variable {g : Nat} {o : Go.Obj}
theorem nil_law {W : World} {te te2 : Nat} {pe pe2 v0 : Value} (T : VarAt PG "internal/strconv.uint64pow10" g o powV) (ho : W.heap[g]? = some o) (hE : W.cell? ⟨5, 0, none⟩ = some (.iface te pe)) (hS : W.cell? ⟨4, 0, none⟩ = some (.iface te2 pe2))
    (A0 : ∃ l : List Pt, RepL (E.start W).c v0 l) : callP PG 5 [v0] W fun v w' => v = .bool true ∧ KeepP (fun _ => False) W w' := by
  obtain ⟨l, h0⟩ := A0
  have h1 := h0.offT (gs := [g]) (fun g' i v hg hv => pow_no T ho hg hv)
  exact A03.law_st T ho hE hS fun σ L h => nil_walk L h h1 fun X' σ' _ h' => ⟨rfl, X', h'⟩
end
end Go.Proofs.YtdlimikcgdgfpaaGreatDoor
