/- Words, as they lie. Conditions: as each theorem says. -/
import Derived.Test.YtmgdkoidgoihfaaGreatDoorWdA
import Derived.Test.YtmgdkoidgoihfaaGreatDoorOc
import Derived.Test.YtmgdkoidgoihfaaGreatDoorAt
namespace Go.Proofs.YtmgdkoidgoihfaaGreatDoor
open E Go.Lib
open Go.RowKit
set_option linter.unusedVariables false
set_option linter.unusedSimpArgs false
set_option maxHeartbeats 1000000
set_option maxRecDepth 20000

inductive RpPt (c : Ce) : Pt → List Value → Prop
  | mk (kind : Int) (text : Str) (quote : Bool) (op : Int) (colon : Bool) (w : List Pt) (a : Option Addr) (cap b o : Nat) (f : Nat → List Value) (ht : text.length ≤ maxLen) (hk : inI64 kind) (ho : inI64 op) (hc : w.length ≤ cap) (hm : cap ≤ maxLen)
      (ha : w = [] ∨ (a = some ⟨b, o, none⟩ ∧ ∀ i, i < w.length → ∀ j v, (f i)[j]? = some v → c b (o + i * 6 + j) = some v)) (hr : ∀ i (hi : i < w.length), RpPt c w[i] (f i)) :
      RpPt c (.mk kind text quote op colon w) [.int .i64 kind, .string (bs text), .bool quote, .int .i64 op, .bool colon, .slice a w.length cap]
theorem RpPt.len {c : Ce} {p : Pt} {cs : List Value} (h : RpPt c p cs) : cs.length = 6 := by cases h; rfl
theorem RpPt.ok {c : Ce} {p : Pt} {cs : List Value} (h : RpPt c p cs) : cs.all okCell = true := by cases h; rfl
theorem RpPt.mono {c c' : Ce} (hc : Ce.le c c') {p : Pt} {cs : List Value} (h : RpPt c p cs) : RpPt c' p cs := by
  induction h with
  | mk kind text quote op colon w a cap b o f ht hk ho hcap hm ha hr ih =>
    refine .mk kind text quote op colon w a cap b o f ht hk ho hcap hm ?_ ih
    rcases ha with ha | ⟨ha, hb⟩
    · exact .inl ha
    · exact .inr ⟨ha, fun i hi j v hv => hc _ _ _ (hb i hi j v hv)⟩
instance : Rp Pt := ⟨6, by decide, RpPt, fun h => RpPt.len h, fun h => RpPt.ok h, fun hc h => RpPt.mono hc h⟩
abbrev ptC (p : Pt) (v : Value) : List Value := [.int .i64 p.kind, .string (bs p.text), .bool p.quote, .int .i64 p.op, .bool p.colon, v]
theorem RpPt.get {c : Ce} {p : Pt} {cs : List Value} (h : RpPt c p cs) : ∃ v, cs = ptC p v ∧ p.text.length ≤ maxLen ∧ inI64 p.kind ∧ inI64 p.op ∧ RepL c v p.word := by
  cases h with
  | mk kind text quote op colon w a cap b o f ht hk ho hcap hm ha hr =>
    refine ⟨_, rfl, ht, hk, ho, a, cap, rfl, hcap, hm, ?_⟩
    rcases ha with ha | ⟨ha, hb⟩
    · exact .inl ha
    · exact .inr ⟨b, o, ha, fun i hi => ⟨f i, hr i hi, fun j v hv => hb i hi j v hv⟩⟩
theorem RpPt.rest {c : Ce} {p : Pt} {v : Value} (h : RpPt c p (ptC p v)) : p.text.length ≤ maxLen ∧ inI64 p.kind ∧ inI64 p.op ∧ RepL c v p.word := by
  obtain ⟨u, e, h1⟩ := h.get
  have : v = u := by
    have := congrArg (fun l : List Value => l[5]?) e
    simpa using this
  subst this
  exact h1
theorem RpPt.val {c : Ce} {p : Pt} {v : Value} (h : RpPt c p (ptC p v)) : ∃ a n cap, v = .slice a n cap := by
  obtain ⟨_, _, _, a, cap, h1, _⟩ := h.rest
  exact ⟨a, _, cap, h1⟩
theorem RpPt.made {c : Ce} {p : Pt} {v : Value} (ht : p.text.length ≤ maxLen) (hk : inI64 p.kind) (ho : inI64 p.op) (h : RepL c v p.word) : RpPt c p (ptC p v) := by
  obtain ⟨a, cap, rfl, hc, hm, h1⟩ := h
  cases p with
  | mk kind text quote op colon w =>
    rcases h1 with h1 | ⟨b, o, h1, h2⟩
    · have h1 : w = [] := h1
      subst h1
      exact .mk kind text quote op colon [] a cap 0 0 (fun _ => []) ht hk ho hc hm (.inl rfl) (fun i hi => by simp at hi)
    · have h2 : ∀ i (hi : i < w.length), ∃ cs, RpPt c w[i] cs ∧ ∀ j v, cs[j]? = some v → c b (o + i * 6 + j) = some v := h2
      refine .mk kind text quote op colon w a cap b o (fun i => if hi : i < w.length then Classical.choose (h2 i hi) else []) ht hk ho hc hm (.inr ⟨h1, fun i hi j v hv => ?_⟩) (fun i hi => ?_)
      · simp only [hi, dif_pos] at hv
        exact (Classical.choose_spec (h2 i hi)).2 j v hv
      · simp only [hi, dif_pos]
        exact (Classical.choose_spec (h2 i hi)).1
theorem RpPt.leaf {c : Ce} {p : Pt} (ht : p.text.length ≤ maxLen) (hk : inI64 p.kind) (ho : inI64 p.op) (hw : p.word = []) : RpPt c p (ptC p (.slice none 0 0)) :=
  .made ht hk ho (by rw [hw]; exact ⟨none, 0, rfl, Nat.le_refl _, Nat.zero_le _, .inl rfl⟩)
section
variable {X : Ce} {σ : AS} {v : Value}
theorem pts_at {l : List Pt} (h : RepL X v l) : ∃ a b o cap, v = .slice a l.length cap ∧ l.length ≤ cap ∧ cap ≤ maxLen ∧ ∀ i (hi : i < l.length), a = some ⟨b, o, none⟩ ∧ ∃ u, RpPt X l[i] (ptC l[i] u) ∧ RepL X u (l[i]).word ∧ (l[i]).text.length ≤ maxLen ∧ inI64 (l[i]).kind ∧ inI64 (l[i]).op ∧
    X b (o + i * 6) = some (.int .i64 (l[i]).kind) ∧ X b (o + i * 6 + 1) = some (.string (bs (l[i]).text)) ∧ X b (o + i * 6 + 2) = some (.bool (l[i]).quote) ∧ X b (o + i * 6 + 3) = some (.int .i64 (l[i]).op) ∧ X b (o + i * 6 + 4) = some (.bool (l[i]).colon) ∧ X b (o + i * 6 + 5) = some u := by
  obtain ⟨a, b, o, cap, h1, h2, h3, h4⟩ := h.get
  refine ⟨a, b, o, cap, h1, h2, h3, fun i hi => ?_⟩
  obtain ⟨h5, cs, h6, _, h7⟩ := h4 i hi
  have h6' : RpPt X l[i] cs := h6
  obtain ⟨u, rfl, g1, g2, g3, g4⟩ := h6'.get
  exact ⟨h5, u, h6, g4, g1, g2, g3, h7 0 _ rfl, h7 1 _ rfl, h7 2 _ rfl, h7 3 _ rfl, h7 4 _ rfl, h7 5 _ rfl⟩
end

/-! ### A word that is handed in -/
section
variable {H : Type} {enc : TypeId × Value → H} {w : World} {base : Nat} {spare : Nat → Bool} {held : Bool}
theorem word_of {n : Nat} {cs : List Value} {x : DataW H × List MemPlace} (ih : ∀ cs x, DataW.trod enc Tryz.prog w base spare held n 37 cs = some x → ∃ p : Pt, RpPt (E.start w).c p cs)
    (h : DataW.trod enc Tryz.prog w base spare held (n + 1) 24 cs = some x) : ∃ (v : Value) (l : List Pt), cs = [v] ∧ RepL (E.start w).c v l := by
  rcases DataW.trod_slice Tryz.underlying24 h with ⟨hcs, _⟩ | ⟨a, len, cap, elems, rest, m, hn, hcs, _, _, hl, hc, hel, hall, _⟩
  · exact ⟨_, [], hcs, none, 0, rfl, Nat.le_refl _, Nat.zero_le _, .inl rfl⟩
  · injection hn with hn
    subst hn
    have hsz : Tryz.prog.cellsOf 37 = 6 := by kernel_rfl
    rw [hsz] at hall
    have hget : ∀ i, i < len → ∃ c y, w.cells? base (a.add (i * 6)) 6 = some c ∧ DataW.trod enc Tryz.prog w base spare held n 37 c = some y := by
      intro i hi
      have h1 := hall i hi
      have h2 : ∃ y, elems[i]? = some y := ⟨elems[i]'(by omega), by simp⟩
      obtain ⟨y, hy⟩ := h2
      rw [hy, Option.bind_eq_some_iff] at h1
      obtain ⟨c, hc1, hc2⟩ := h1
      exact ⟨c, y, hc1, hc2⟩
    have hg : ∀ i, i < len → w.cells? base (a.add (i * 6)) 6 = some ((w.cells? base (a.add (i * 6)) 6).getD []) := by
      intro i hi
      obtain ⟨c, y, h1, _⟩ := hget i hi
      rw [h1]; rfl
    obtain ⟨h1, h2⟩ := arr_of_cells hg (by decide)
    obtain ⟨l, hll, hp⟩ := list_of (n := len) (p := fun i p => RpPt (E.start w).c p ((w.cells? base (a.add (i * 6)) 6).getD [])) (fun i hi => by
      obtain ⟨c, y, h3, h4⟩ := hget i hi
      obtain ⟨p, hp⟩ := ih c y h4
      exact ⟨p, by rw [h3]; exact hp⟩)
    refine ⟨_, l, hcs, some a, cap, by rw [hll], by omega, hc, ?_⟩
    rcases h1 with h1 | ⟨b, o, h1, h3⟩
    · exact .inl (List.eq_nil_of_length_eq_zero (by omega))
    · exact .inr ⟨b, o, h1, fun i hi => ⟨_, hp i hi, fun j v hv => h3 i (by omega) j v hv⟩⟩
theorem part_of : ∀ (fuel : Nat) (cs : List Value) (x : DataW H × List MemPlace), DataW.trod enc Tryz.prog w base spare held fuel 37 cs = some x → ∃ p : Pt, RpPt (E.start w).c p cs := by
  intro fuel
  induction fuel using Nat.strongRecOn with
  | ind fuel ih =>
    intro cs x h
    obtain ⟨xs, n, rfl, _, hl, hxl, hall⟩ := DataW.trod_struct Tryz.underlying37 h
    have hsz : Tryz.prog.cellsOf 37 = 6 := by kernel_rfl
    rw [hsz] at hl
    match cs, hl with
    | [c0, c1, c2, c3, c4, c5], _ =>
    have hx : ∀ i, i < 6 → ∃ y, xs[i]? = some y := fun i hi => by
      have : i < xs.length := by rw [hxl]; exact hi
      exact ⟨xs[i], by simp [this]⟩
    obtain ⟨y0, e0⟩ := hx 0 (by decide)
    obtain ⟨y1, e1⟩ := hx 1 (by decide)
    obtain ⟨y2, e2⟩ := hx 2 (by decide)
    obtain ⟨y3, e3⟩ := hx 3 (by decide)
    obtain ⟨y4, e4⟩ := hx 4 (by decide)
    obtain ⟨y5, e5⟩ := hx 5 (by decide)
    have h0 := hall 0 _ rfl
    have h1 := hall 1 _ rfl
    have h2 := hall 2 _ rfl
    have h3 := hall 3 _ rfl
    have h4 := hall 4 _ rfl
    have h5 := hall 5 _ rfl
    rw [e0] at h0
    rw [e1] at h1
    rw [e2] at h2
    rw [e3] at h3
    rw [e4] at h4
    rw [e5] at h5
    have z1 : Tryz.prog.cellsOf 3 = 1 := by kernel_rfl
    have z2 : Tryz.prog.cellsOf 9 = 1 := by kernel_rfl
    have z3 : Tryz.prog.cellsOf 4 = 1 := by kernel_rfl
    have z4 : Tryz.prog.cellsOf 24 = 1 := by kernel_rfl
    change DataW.trod enc Tryz.prog w base spare held n 3 (List.take (Tryz.prog.cellsOf 3) (List.drop 0 [c0, c1, c2, c3, c4, c5])) = _ at h0
    change DataW.trod enc Tryz.prog w base spare held n 9 (List.take (Tryz.prog.cellsOf 9) (List.drop 1 [c0, c1, c2, c3, c4, c5])) = _ at h1
    change DataW.trod enc Tryz.prog w base spare held n 4 (List.take (Tryz.prog.cellsOf 4) (List.drop 2 [c0, c1, c2, c3, c4, c5])) = _ at h2
    change DataW.trod enc Tryz.prog w base spare held n 3 (List.take (Tryz.prog.cellsOf 3) (List.drop 3 [c0, c1, c2, c3, c4, c5])) = _ at h3
    change DataW.trod enc Tryz.prog w base spare held n 4 (List.take (Tryz.prog.cellsOf 4) (List.drop 4 [c0, c1, c2, c3, c4, c5])) = _ at h4
    change DataW.trod enc Tryz.prog w base spare held n 24 (List.take (Tryz.prog.cellsOf 24) (List.drop 5 [c0, c1, c2, c3, c4, c5])) = _ at h5
    simp only [z1, z2, z3, z4, List.drop_zero, List.drop_succ_cons, List.take_succ_cons, List.take_zero] at h0 h1 h2 h3 h4 h5
    obtain ⟨m0, g0, _, w0⟩ := DataW.trod_int Tryz.underlying3 h0
    obtain ⟨s1, g1, _, w1⟩ := DataW.trod_string Tryz.underlying9 h1
    obtain ⟨b2, g2, _⟩ := DataW.trod_bool Tryz.underlying4 h2
    obtain ⟨m3, g3, _, w3⟩ := DataW.trod_int Tryz.underlying3 h3
    obtain ⟨b4, g4, _⟩ := DataW.trod_bool Tryz.underlying4 h4
    have hw : ∃ (v : Value) (l : List Pt), [c5] = [v] ∧ RepL (E.start w).c v l := by
      cases n with
      | zero => unfold DataW.trod at h5; cases h5
      | succ n => exact word_of (fun cs x hc => ih n (by omega) cs x hc) h5
    obtain ⟨v, l, g5, hl5⟩ := hw
    injection g0 with g0 _
    injection g1 with g1 _
    injection g2 with g2 _
    injection g3 with g3 _
    injection g4 with g4 _
    injection g5 with g5 _
    subst g0 g1 g2 g3 g4 g5
    obtain ⟨t, rfl⟩ : ∃ t : Str, s1 = bs t := ⟨_, bs_of s1⟩
    rw [bs_size] at w1
    exact ⟨.mk m0 t b2 m3 b4 l, RpPt.made (c := (E.start w).c) (p := .mk m0 t b2 m3 b4 l) (v := c5) w1 (wf_i64 w0) (wf_i64 w3) hl5⟩
/-- A word that is handed in, as data. -/
theorem arg_word {v : Value} {d : DataW H} {ps : List MemPlace} (h : DataW.Trod enc Tryz.prog w base spare held 24 v d ps) (hv : v.cells.toList = [v]) : ∃ l : List Pt, RepL (E.start w).c v l := by
  obtain ⟨fuel, hf⟩ := h
  rw [hv] at hf
  cases fuel with
  | zero => unfold DataW.trod at hf; cases hf
  | succ n =>
    obtain ⟨u, l, h1, h2⟩ := word_of (fun cs x hc => part_of n cs x hc) hf
    injection h1 with h1 _
    subst h1
    exact ⟨l, h2⟩
end
end Go.Proofs.YtmgdkoidgoihfaaGreatDoor
