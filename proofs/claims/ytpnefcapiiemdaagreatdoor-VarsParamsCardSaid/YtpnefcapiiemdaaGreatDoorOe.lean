/- Ranges over functions, as things that lie apart. Conditions: as each theorem says. -/
import Derived.Test.YtpnefcapiiemdaaGreatDoorG1
import Derived.Below
import Derived.Laws.StructEq
import Derived.ChangeKeysEq
import Derived.Laws.Build
import Derived.Lib.LaidTab
namespace Go.Proofs.YtpnefcapiiemdaaGreatDoor.E
open Go.RowKit Go.Lib
set_option linter.unusedVariables false

/-- A block that holds another object. -/
def Oth (p : Nat) (o : Go.Obj) : Ck := ⟨fun F X σ => F = [p] ∧ σ.m p = some (.other o), fun ⟨h, h1⟩ _ hm => ⟨h, (hm _ (by rw [h]; simp)).trans h1⟩, fun ⟨h, h1⟩ g hg => by rw [h] at hg; simp at hg; subst hg; exact AS.lt h1⟩
section
variable {P : Program} {σ σ' : AS} {X : Ce} {R : List Ck} {C : Ck} {p : Nat} {o o' : Go.Obj} {k : Value → AS → Prop}
theorem Hs.oth (h : Hs σ X (Oth p o :: R)) : σ.m p = some (.other o) := by obtain ⟨_, ⟨_, h⟩, _⟩ := h.s; exact h
theorem Hs.putX (h : Hs σ X (Oth p o :: R)) : Hs (σ.put p (.other o')) X (Oth p o' :: R) := by
  obtain ⟨F, ⟨rfl, hm⟩, hk⟩ := h.turn
  exact hk ((Chg.refl _ _).put (.inl (by simp)) _) ⟨rfl, by rw [put_eq, hm]; rfl⟩ (fun g hg => .inl hg)
theorem Hs.newX (h : Hs σ X R) : Hs (σ.new (.other o)) X (Oth σ.n o :: R) := h.more ((Chg.refl _ _).new _) ⟨rfl, new_eq_⟩ (by simp)
theorem rngf_by {g : FuncId} {a b : List Value} {B : List Value → AS → (AS → (AS → Prop) → Prop) → (AS → Prop) → Prop} (ho : okFn P g = true)
    (h : ∀ (o o' : Go.Obj), (∀ args s k', s.m (σ.n + 1) = some (.other o) → B args s (fun s1 k1 => s1.m (σ.n + 1) = some (.other o) ∧ k1 (s1.put (σ.n + 1) (.other o'))) (fun s2 => s2.m (σ.n + 1) = some (.other o') ∧ k' (.bool true) (s2.put (σ.n + 1) (.other o))) → kYld P (σ.n + 1) args s k') →
      kCall P g (a ++ [.func (.yield (σ.n + 1)) #[] #[]] ++ b) ((σ.new (.other (.deferred (some [])))).new (.other o)) fun _ s => s.m (σ.n + 1) = some (.other o) ∧ ∀ o2, k (.int .i64 σ.n) (s.put (σ.n + 1) (.other o2))) :
    kRng P (.func (.func g) a.toArray b.toArray) B σ k := ⟨ho, h⟩
theorem fin1 {D : Nat} {K : AS → Prop} (h : σ.m D = some (.other (.deferred (some [])))) (hk : K (σ.put D (.other (.deferred none)))) : kFin P (valsOf (consM (.int .i64 D) undef)) σ K := ⟨h, hk⟩
theorem yld_by {l : Nat} {args : List Value} (h : kYld P l args σ k) : kCallv P (.func (.yield l) #[] #[]) args σ k := ⟨rfl, rfl, h⟩
/-! ### A list of the data that stay is laid behind a row -/
variable {α : Type} [Rp α] {l ms : List α} {u v : Value}
theorem RepL.allX (h : RepL X u ms) (hx : Ce.le X σ.ld) : ∃ a cap, u = .slice a ms.length cap ∧ ms.length ≤ cap ∧ (ms = [] ∨ ∃ b o xs, a = some ⟨b, o, none⟩ ∧ ldsS σ b o (ms.length * Rp.sz α) = some xs ∧ RpL X ms xs) := by
  obtain ⟨a, b, o, cap, hv, h1, h2, hat⟩ := h.get
  refine ⟨a, cap, hv, h1, ?_⟩
  cases hms : ms with
  | nil => exact .inl rfl
  | cons m0 mr =>
    right
    obtain ⟨ha, _⟩ := hat 0 (by rw [hms]; simp)
    rw [← hms]
    refine ⟨b, o, ?_⟩
    have one : ∀ (cs : List Value) (n o : Nat), cs.length = n → (∀ j v, cs[j]? = some v → X b (o + j) = some v) → ldsS σ b o n = some cs := by
      intro cs
      induction cs with
      | nil => intro n o hn _; simp at hn; subst hn; rfl
      | cons v r ih =>
        intro n o hn hc
        simp at hn
        subst hn
        have h0 := hx _ _ _ (hc 0 v rfl)
        simp only [Nat.add_zero] at h0
        simp only [ldsS]
        rw [h0, Option.bind_some, ih r.length (o + 1) rfl (fun j u hu => by
          have := hc (j + 1) u (by simpa using hu)
          rw [show o + 1 + j = o + (j + 1) from by omega]; exact this)]
        rfl
    have key : ∀ (l : List α) (o : Nat), (∀ i (hi : i < l.length), ∃ cs, Rp.rp X l[i] cs ∧ ldsS σ b (o + i * Rp.sz α) (Rp.sz α) = some cs) → ∃ xs, ldsS σ b o (l.length * Rp.sz α) = some xs ∧ RpL X l xs := by
      intro l
      induction l with
      | nil => intro o _; exact ⟨[], by simp [ldsS], rfl⟩
      | cons a l ih =>
        intro o hh
        obtain ⟨cs, hc, hl⟩ := hh 0 (by simp)
        rw [Nat.zero_mul, Nat.add_zero] at hl
        obtain ⟨xs, hx, hr⟩ := ih (o + Rp.sz α) (fun i hi => by
          obtain ⟨cs, hc, hl⟩ := hh (i + 1) (by simpa using hi)
          exact ⟨cs, hc, by rw [show o + Rp.sz α + i * Rp.sz α = o + (i + 1) * Rp.sz α from by rw [Nat.add_mul]; omega]; exact hl⟩)
        refine ⟨cs ++ xs, ?_, cs, xs, rfl, hc, hr⟩
        rw [List.length_cons, show (l.length + 1) * Rp.sz α = Rp.sz α + l.length * Rp.sz α from by rw [Nat.add_mul]; omega]
        exact lds_add hl hx
    obtain ⟨xs, hx2, hr⟩ := key ms o (fun i hi => by
      obtain ⟨_, cs, h3, h4, h5⟩ := hat i hi
      exact ⟨cs, h3, one cs _ _ h4 h5⟩)
    exact ⟨xs, ha, hx2, hr⟩
theorem appL_by {t e : TypeId} {bytes : Nat} (h : Hs σ X (E.Own v l :: R)) (hr : RepL X u ms) (ht : P.underlying t = some (.slice e)) (hi : infB P e (Rp.sz α) bytes = true) (hlen : (l.length + ms.length) * bytes ≤ 140737488355328) (hlen' : l.length + ms.length ≤ maxLen)
    (hk : ∀ v' σ', Hs σ' X (E.Own v' (l ++ ms) :: R) → k v' σ') : kApp P t t v u σ k := by
  obtain ⟨a, cap, rfl, hcap, hms⟩ := hr.allX h.x
  obtain ⟨F, ⟨rfl, xs, h3, h4⟩, hk2⟩ := h.turn
  rcases hms with rfl | ⟨b, o, news, rfl, hn, hrl⟩
  · refine app0_by (sz := Rp.sz α) ht hi h3 ?_
    have := hk v σ (by rw [List.append_nil]; exact h)
    exact this
  · refine app_by ht hi h3 (news := news) hn hrl.ok hlen hlen' ?_
    intro v' σ' ho hc hg
    refine hk v' σ' (hk2 (F' := ownL v') hc ⟨rfl, xs ++ news, by rw [List.length_append]; exact ho, h4.append hrl⟩ (fun g hg' => ?_))
    rcases hg g hg' with h | h
    · exact .inl h
    · exact .inr (by omega)
end
end Go.Proofs.YtpnefcapiiemdaaGreatDoor.E

/- What stands in a list's cells that stay: texts, numbers, truths. Conditions: none. -/
namespace Go.Proofs.YtpnefcapiiemdaaGreatDoor
open E
set_option linter.unusedVariables false
set_option linter.unusedSimpArgs false

section
variable {X : Ce} {v : Value}
theorem strs_at {l : List Str} (h : RepL X v l) : ∃ a b o cap, v = .slice a l.length cap ∧ l.length ≤ cap ∧ cap ≤ maxLen ∧ ∀ i (hi : i < l.length), a = some ⟨b, o, none⟩ ∧ X b (o + i) = some (.string (bs l[i])) ∧ l[i].length ≤ maxLen := by
  obtain ⟨a, b, o, cap, h1, h2, h3, h4⟩ := h.get
  refine ⟨a, b, o, cap, h1, h2, h3, fun i hi => ?_⟩
  obtain ⟨h5, cs, ⟨rfl, h6⟩, _, h7⟩ := h4 i hi
  exact ⟨h5, by have := h7 0 _ rfl; simpa [Rp.sz] using this, h6⟩
theorem ints_in {l : List Int} (h : RepL X v l) : ∃ a b o cap, v = .slice a l.length cap ∧ l.length ≤ cap ∧ cap ≤ maxLen ∧ ∀ i (hi : i < l.length), a = some ⟨b, o, none⟩ ∧ X b (o + i) = some (.int .i64 l[i]) ∧ inI64 l[i] := by
  obtain ⟨a, b, o, cap, h1, h2, h3, h4⟩ := h.get
  refine ⟨a, b, o, cap, h1, h2, h3, fun i hi => ?_⟩
  obtain ⟨h5, cs, ⟨rfl, h6⟩, _, h7⟩ := h4 i hi
  exact ⟨h5, by have := h7 0 _ rfl; simpa [Rp.sz] using this, h6⟩
theorem bools_in {l : List Bool} (h : RepL X v l) : ∃ a b o cap, v = .slice a l.length cap ∧ l.length ≤ cap ∧ cap ≤ maxLen ∧ ∀ i (hi : i < l.length), a = some ⟨b, o, none⟩ ∧ X b (o + i) = some (.bool l[i]) := by
  obtain ⟨a, b, o, cap, h1, h2, h3, h4⟩ := h.get
  refine ⟨a, b, o, cap, h1, h2, h3, fun i hi => ?_⟩
  obtain ⟨h5, cs, rfl, _, h7⟩ := h4 i hi
  exact ⟨h5, by have := h7 0 _ rfl; simpa [Rp.sz] using this⟩
end
end Go.Proofs.YtpnefcapiiemdaaGreatDoor

/- A function of Go's library by its contract: what was there stays, new blocks may come. Conditions: none. -/
namespace Go.Proofs.YtpnefcapiiemdaaGreatDoor.E
open Go.RowKit
set_option linter.unusedVariables false
set_option linter.unusedSimpArgs false

section
variable {P : Program} {σ : AS} {w w' : World}
theorem Sat.below (hw : Sat σ w) (hb : Below w.heap.size w w') : Sat (σ.up (size w' - size w)) w' := by
  have hs := hb.size
  have hsz := hw.sz
  refine ⟨?_, fun g ob hg => obAt_congr (hb.block g ?_) (hw.m g ob hg), fun b o v hv => ?_⟩
  · rw [up_n, ← hsz]; simp only [size] at hs ⊢; omega
  · have : g < σ.n := AS.lt hg
    simp only [size] at hsz; omega
  · have : b < σ.n := AS.ltc hv
    rw [hb.cell (by simp only [size] at hsz; show b < _; omega)]
    exact hw.c b o v hv
theorem KeepP.ofBelow {S : Nat → Prop} (hb : Below w.heap.size w w') : KeepP S w w' := ⟨hb.os, hb.tape, hb.output, hb.size, fun k hk _ => hb.block k hk⟩
/-- A contract that leaves what was there. -/
theorem below_by {f : Nat} {args : List Value} {v : Value} {k : Value → AS → Prop} (h : ∀ w, Sat σ w → Calls P f args.toArray w fun e w' => e = .returned v ∧ Below w.heap.size w w') (hk : ∀ j, k v (σ.up j)) : kCall P f args σ k := by
  intro w hw
  refine Calls.mono (h w hw) fun e w' ⟨he, hb⟩ => ⟨v, he, KeepP.ofBelow hb, _, hw.below hb, Fol.up _ _, hk _⟩
/-- The same, the answer one of some. -/
theorem below_ex {f : Nat} {args : List Value} {Q : Value → Prop} {k : Value → AS → Prop} (h : ∀ w, Sat σ w → Calls P f args.toArray w fun e w' => (∃ v, e = .returned v ∧ Q v) ∧ Below w.heap.size w w') (hk : ∀ v j, Q v → k v (σ.up j)) : kCall P f args σ k := by
  intro w hw
  refine Calls.mono (h w hw) fun e w' ⟨⟨v, he, hq⟩, hb⟩ => ⟨v, he, KeepP.ofBelow hb, _, hw.below hb, Fol.up _ _, hk _ _ hq⟩
end
end Go.Proofs.YtpnefcapiiemdaaGreatDoor.E

/- Two tests of which the second one may be passed over, as one. Conditions: none. -/
namespace Go.Proofs.YtpnefcapiiemdaaGreatDoor.E
set_option linter.unusedVariables false

theorem grd_or {s : AS} {a b : Bool} {X : (List Value → AS → Prop) → Prop} {K : AS → Value → Prop} (hX : a = false → ∀ k' : List Value → AS → Prop, k' [.bool b] s → X k') (hK : K s (.bool (a || b))) :
    kGrd (.bool a) false X [undef] s fun xs s => un1 xs fun v => kPick (.bool a) (.bool true) v (K s) := by
  cases a with
  | true => exact hK
  | false => exact hX rfl _ hK
theorem grd_and {s : AS} {a b : Bool} {X : (List Value → AS → Prop) → Prop} {K : AS → Value → Prop} (hX : a = true → ∀ k' : List Value → AS → Prop, k' [.bool b] s → X k') (hK : K s (.bool (a && b))) :
    kGrd (.bool a) true X [undef] s fun xs s => un1 xs fun v => kPick (.bool a) v (.bool false) (K s) := by
  cases a with
  | false => exact hK
  | true => exact hX rfl _ hK
end Go.Proofs.YtpnefcapiiemdaaGreatDoor.E

/- A cell of a row that turns. Conditions: as each theorem says. -/
namespace Go.Proofs.YtpnefcapiiemdaaGreatDoor
open E Go.Lib
open Go.RowKit
set_option linter.unusedVariables false
set_option linter.unusedSimpArgs false
set_option maxHeartbeats 1000000
set_option maxRecDepth 20000

section
variable {α : Type} [Rp α] {X : Ce} {σ : AS} {R : List Ck} {u : Value}
theorem RpL.set : ∀ {L : List α} {xs : List Value} {n : Nat} (hn : n < L.length), RpL X L xs →
    ∃ cs, Rp.rp X L[n] cs ∧ (∀ j v, cs[j]? = some v → xs[n * Rp.sz α + j]? = some v) ∧ (n + 1) * Rp.sz α ≤ xs.length ∧ ∀ j v a', j < Rp.sz α → Rp.rp X a' (cs.set j v) → RpL X (L.set n a') (xs.set (n * Rp.sz α + j) v)
  | a :: L, _, 0, _, ⟨x, y, rfl, h1, h2⟩ => by
    have hl := Rp.len h1
    refine ⟨x, h1, fun j v hv => ?_, by rw [List.length_append]; omega, fun j v a' hj ha => ?_⟩
    · rw [Nat.zero_mul, Nat.zero_add, List.getElem?_append_left (List.getElem?_eq_some_iff.1 hv).1]; exact hv
    · rw [Nat.zero_mul, Nat.zero_add, List.set_append_left _ _ (by omega)]
      exact ⟨_, _, rfl, ha, h2⟩
  | a :: L, _, n + 1, hn, ⟨x, y, rfl, h1, h2⟩ => by
    have hl := Rp.len h1
    obtain ⟨cs, g1, g2, g3, g4⟩ := RpL.set (n := n) (by simpa using hn) h2
    have e : ∀ j, (n + 1) * Rp.sz α + j = x.length + (n * Rp.sz α + j) := fun j => by rw [hl, Nat.succ_mul]; omega
    refine ⟨cs, by simpa using g1, fun j v hv => ?_, by rw [List.length_append, hl, Nat.succ_mul]; omega, fun j v a' hj ha => ?_⟩
    · rw [e, List.getElem?_append_right (by omega), show x.length + (n * Rp.sz α + j) - x.length = n * Rp.sz α + j from by omega]
      exact g2 j v hv
    · rw [e, List.set_append_right _ _ (by omega), show x.length + (n * Rp.sz α + j) - x.length = n * Rp.sz α + j from by omega]
      exact ⟨_, _, rfl, h1, g4 j v a' hj ha⟩
/-- One of a row's elements, as it lies; and a cell of it that turns. -/
theorem Own.cell {L : List α} {n : Nat} (h : Hs σ X (E.Own u L :: R)) (hn : n < L.length) : ∃ g c cs ys, u = .slice (some ⟨g, 0, none⟩) L.length c ∧ L.length ≤ c ∧ c ≤ maxLen ∧ Rp.rp X L[n] cs ∧ σ.m g = some (.cells ys) ∧ (n + 1) * Rp.sz α ≤ ys.length ∧
    (∀ j v, cs[j]? = some v → ys[n * Rp.sz α + j]? = some v) ∧ ∀ j v a', j < Rp.sz α → Rp.rp X a' (cs.set j v) → Hs (σ.put g (.cells (ys.set (n * Rp.sz α + j) v))) X (E.Own u (L.set n a') :: R) := by
  obtain ⟨F, ⟨rfl, xs, h1, h2⟩, hk⟩ := h.turn
  obtain ⟨cs, g1, g2, g3, g4⟩ := RpL.set hn h2
  rcases h1 with ⟨rfl, h0, _⟩ | ⟨g, c, sp, rfl, hm, hx, hcl, hle, hcm⟩
  · omega
  · refine ⟨g, c, cs, xs ++ sp, rfl, hle, hcm, g1, hm, by rw [List.length_append]; omega, fun j v hv => ?_, fun j v a' hj ha => ?_⟩
    · have := g2 j v hv
      rw [List.getElem?_append_left (List.getElem?_eq_some_iff.1 this).1]; exact this
    · have hlt : n * Rp.sz α + j < xs.length := by rw [Nat.succ_mul] at g3; omega
      rw [List.set_append_left _ _ hlt]
      refine hk (F' := ownL (.slice (some ⟨g, 0, none⟩) L.length c)) ((Chg.refl _ _).put (.inl (by simp [ownL])) _) ⟨rfl, xs.set (n * Rp.sz α + j) v, .inr ⟨g, c, sp, by rw [List.length_set], by rw [put_eq, hm]; rfl, by rw [List.length_set, List.length_set]; exact hx, by rw [List.length_append, List.length_set, ← List.length_append]; exact hcl, by rw [List.length_set]; exact hle, hcm⟩, g4 j v a' hj ha⟩ (fun g hg => .inl hg)
end
end Go.Proofs.YtpnefcapiiemdaaGreatDoor

/- A whole element of a row that turns. Conditions: as each theorem says. -/
namespace Go.Proofs.YtpnefcapiiemdaaGreatDoor
open E Go.Lib
open Go.RowKit
set_option linter.unusedVariables false
set_option linter.unusedSimpArgs false
set_option maxHeartbeats 1000000
set_option maxRecDepth 20000

section
variable {α : Type} [Rp α] {X : Ce} {σ : AS} {R : List Ck} {u : Value}
theorem Own.elem {L : List α} {n : Nat} (h : Hs σ X (E.Own u L :: R)) (hn : n < L.length) : ∃ g c ys, u = .slice (some ⟨g, 0, none⟩) L.length c ∧ L.length ≤ c ∧ c ≤ maxLen ∧ σ.m g = some (.cells ys) ∧ n * Rp.sz α + Rp.sz α ≤ ys.length ∧
    ∀ a' cs, Rp.rp X a' cs → Hs (σ.put g (.cells (ys.take (n * Rp.sz α) ++ cs ++ ys.drop (n * Rp.sz α + Rp.sz α)))) X (E.Own u (L.set n a') :: R) := by
  obtain ⟨F, ⟨rfl, xs, h1, h2⟩, hk⟩ := h.turn
  have hl := h2.len
  have hnn : n * Rp.sz α + Rp.sz α ≤ xs.length := by
    rw [hl, ← Nat.succ_mul]
    exact Nat.mul_le_mul_right _ hn
  rcases h1 with ⟨rfl, h0, _⟩ | ⟨g, c, sp, rfl, hm, hx, hcl, hle, hcm⟩
  · omega
  · refine ⟨g, c, xs ++ sp, rfl, hle, hcm, hm, by rw [List.length_append]; omega, fun a' cs ha => ?_⟩
    have hcs := Rp.len ha
    have e : (xs ++ sp).take (n * Rp.sz α) ++ cs ++ (xs ++ sp).drop (n * Rp.sz α + Rp.sz α) = (xs.take (n * Rp.sz α) ++ cs ++ xs.drop (n * Rp.sz α + Rp.sz α)) ++ sp := by
      rw [List.take_append_of_le_length (by omega), List.drop_append_of_le_length (by omega)]
      simp only [List.append_assoc]
    rw [e]
    have hlen : (xs.take (n * Rp.sz α) ++ cs ++ xs.drop (n * Rp.sz α + Rp.sz α)).length = xs.length := by
      simp only [List.length_append, List.length_take, List.length_drop]; omega
    refine hk (F' := ownL (.slice (some ⟨g, 0, none⟩) L.length c)) ((Chg.refl _ _).put (.inl (by simp [ownL])) _) ⟨rfl, _, .inr ⟨g, c, sp, by rw [List.length_set], by rw [put_eq, hm]; rfl, by rw [List.length_set, hlen]; exact hx, by rw [List.length_append, hlen, ← List.length_append]; exact hcl, by rw [List.length_set]; exact hle, hcm⟩, E.RpL.set h2 n hn ha⟩ (fun g hg => .inl hg)
end
end Go.Proofs.YtpnefcapiiemdaaGreatDoor

/- Structs of numbers, bools and strings, compared. Conditions: as each theorem says. -/
namespace Go.Proofs.YtpnefcapiiemdaaGreatDoor.E
open Go.RowKit Go.Lib
set_option linter.unusedVariables false
set_option linter.unusedSimpArgs false

inductive L1 where
  | i (k : IntKind) (n : Int)
  | b (x : Bool)
  | s (l : List UInt8)
  deriving DecidableEq
inductive Kd where
  | i (k : IntKind)
  | b
  | s
def L1.val : L1 → Value
  | .i k n => .int k n
  | .b x => .bool x
  | .s l => .string (bs l)
def L1.kd : L1 → Kd
  | .i k _ => .i k
  | .b _ => .b
  | .s _ => .s
def fitK (P : Program) : Nat → List Field → List Kd → Bool
  | _, [], [] => true
  | o, f :: fs, k :: ks => f.offset == o && f.name != "_" && P.plainKey f.type && (match P.underlying f.type, k with | some (.int j), .i j' => j == j' | some .bool, .b => true | some .string, .s => true | _, _ => false) && fitK P (o + 1) fs ks
  | _, _, _ => false
def fitS (P : Program) (t : TypeId) (ks : List Kd) : Bool := !P.eqGuardType P.depth t && !P.stoodInHeld t && (match P.underlying t with | some (.struct fs) => fitK P 0 fs.toList ks | _ => false)
section
variable {P : Program} {w : World} {σ : AS} {K : Value → AS → Prop}
theorem eqFields_flat (d : Nat) : ∀ (fs : List Field) (ks : List Kd) (ls ms : List L1) (pre pre' : List Value) (o : Nat), pre.length = o → pre'.length = o → fitK P o fs ks = true → ls.map L1.kd = ks → ms.map L1.kd = ks →
    (Op.eqFields (d + 1) (pre ++ ls.map L1.val).toArray (pre' ++ ms.map L1.val).toArray fs).run P w = .ok (decide (ls = ms)) w
  | [], [], ls, ms, _, _, _, _, _, _, h1, h2 => by
    obtain rfl := List.map_eq_nil_iff.1 h1
    obtain rfl := List.map_eq_nil_iff.1 h2
    simp [Op.eqFields]
  | f :: fs, k :: ks, [], ms, _, _, _, _, _, _, h1, _ => by cases h1
  | f :: fs, k :: ks, _ :: _, [], _, _, _, _, _, _, _, h2 => by cases h2
  | f :: fs, k :: ks, l :: ls, m :: ms, pre, pre', o, hp, hp', hf, h1, h2 => by
    simp only [fitK, Bool.and_eq_true, beq_iff_eq, bne_iff_ne, ne_eq] at hf
    obtain ⟨⟨⟨⟨ho, hn⟩, hpl⟩, hk⟩, hr⟩ := hf
    simp only [List.map_cons, List.cons.injEq] at h1 h2
    have g1 : (pre ++ (l :: ls).map L1.val).toArray[f.offset]? = some l.val := by simp [ho, ← hp]
    have g2 : (pre' ++ (m :: ms).map L1.val).toArray[f.offset]? = some m.val := by simp [ho, ← hp']
    have ih := eqFields_flat d fs ks ls ms (pre ++ [l.val]) (pre' ++ [m.val]) (o + 1) (by simp [hp]) (by simp [hp']) hr h1.2 h2.2
    simp only [List.append_assoc, List.singleton_append] at ih
    have he : (Op.equalIn (d + 1) f.type l.val m.val).run P w = .ok (decide (l = m)) w := by
      split at hk
      · rename_i j j' hu
        have hj : j = j' := by simpa using hk
        subst hj
        cases l <;> cases m <;> simp only [L1.kd, reduceCtorEq, false_and, and_false] at h1 h2
        rename_i k1 n1 k2 n2
        have e1 : k1 = j := by injection h1.1
        have e2 : k2 = j := by injection h2.1
        subst e1
        subst e2
        rw [L1.val, L1.val, run_equalIn_int w d f.type _ _ n1 n2 hu]
        congr 1
        by_cases h : n1 = n2 <;> simp [h]
      · rename_i hu
        cases l <;> cases m <;> simp only [L1.kd, reduceCtorEq, false_and, and_false] at h1 h2
        rename_i x y
        rw [L1.val, L1.val, run_equalIn_bool' w d f.type x y hu]
        congr 1
        by_cases h : x = y <;> simp [h]
      · rename_i hu
        cases l <;> cases m <;> simp only [L1.kd, reduceCtorEq, false_and, and_false] at h1 h2
        rename_i x y
        rw [L1.val, L1.val, run_equalIn_string w d f.type _ _ hu]
        congr 1
        have e : ∀ z : List UInt8, (bs z).toList = z := fun z => by rw [ByteArray.toList_eq]; simp [bs]
        rw [e, e]
        by_cases h : x = y <;> simp [h]
      · cases hk
    simp only [Op.eqFields, hn, ne_eq, not_false_eq_true, if_true, Sem.run_bind, run_part_plain w hpl g1, run_part_plain w hpl g2, he, Result.andThen_ok]
    by_cases h : l = m
    · subst h
      simp only [decide_true, Bool.not_true, Bool.false_eq_true, if_false, List.map_cons, ih]
      congr 1
      simp
    · simp [h]
theorem eqS_run {t : TypeId} {ks : List Kd} (hf : fitS P t ks = true) (ls ms : List L1) (h1 : ls.map L1.kd = ks) (h2 : ms.map L1.kd = ks) (x y : Operand) (w : World) :
    (eqGuard .eql t x y (.agg (ls.map L1.val).toArray) (.agg (ms.map L1.val).toArray)).run P w = .ok () w ∧ (eqGuard .neq t x y (.agg (ls.map L1.val).toArray) (.agg (ms.map L1.val).toArray)).run P w = .ok () w ∧
    (Op.equalIn 10000 t (.agg (ls.map L1.val).toArray) (.agg (ms.map L1.val).toArray)).run P w = .ok (decide (ls = ms)) w := by
  unfold fitS at hf
  simp only [Bool.and_eq_true, Bool.not_eq_true'] at hf
  obtain ⟨⟨hg, hs⟩, hfs⟩ := hf
  split at hfs
  · rename_i fs hu
    have hfo : P.fieldsOf t = fs := by simp [Program.fieldsOf, hu]
    refine ⟨run_eqGuard_agg w .eql t x y _ _ hg, run_eqGuard_agg w .neq t x y _ _ hg, ?_⟩
    rw [show (10000 : Nat) = 9998 + 1 + 1 from rfl, run_equalIn_struct w (9998 + 1) t _ _ (by rw [hfo]; exact hu) hs, hfo]
    have := eqFields_flat (P := P) (w := w) 9998 fs.toList ks ls ms [] [] 0 rfl rfl hfs h1 h2
    simpa using this
  · cases hfs
theorem seq_by {t : TypeId} {x y : Operand} {ks : List Kd} (hf : fitS P t ks = true) (ls ms : List L1) (h1 : ls.map L1.kd = ks) (h2 : ms.map L1.kd = ks) (hK : K (.bool (decide (ls = ms))) σ) :
    kGen P (.bop .eql t x y) [.agg (ls.map L1.val).toArray, .agg (ms.map L1.val).toArray] σ K := by
  intro w hw
  obtain ⟨h3, _, h4⟩ := eqS_run hf ls ms h1 h2 x y w
  refine ⟨_, w, ?_, Out.same hw hK⟩
  simp only [lkSem, Sem.run_bind, h3, Result.andThen_ok, run_eql_struct w t, h4]
theorem sne_by {t : TypeId} {x y : Operand} {ks : List Kd} (hf : fitS P t ks = true) (ls ms : List L1) (h1 : ls.map L1.kd = ks) (h2 : ms.map L1.kd = ks) (hK : K (.bool (!decide (ls = ms))) σ) :
    kGen P (.bop .neq t x y) [.agg (ls.map L1.val).toArray, .agg (ms.map L1.val).toArray] σ K := by
  intro w hw
  obtain ⟨_, h3, h4⟩ := eqS_run hf ls ms h1 h2 x y w
  refine ⟨_, w, ?_, Out.same hw hK⟩
  simp only [lkSem, Sem.run_bind, h3, Result.andThen_ok, run_neq_struct w t, h4]
end
end Go.Proofs.YtpnefcapiiemdaaGreatDoor.E

/- Interface values made and asserted; maps.Clone's entry. Conditions: as each theorem says. -/
namespace Go.Proofs.YtpnefcapiiemdaaGreatDoor.E
open Go.RowKit Go.Lib Go.MapKept
set_option linter.unusedVariables false
set_option linter.unusedSimpArgs false

section
variable {P : Program} {k : Value → AS → Prop} {σ : AS} {X : Ce} {R : List Ck} {t u : TypeId} {x v : Value} {f : FuncId} {r : Nat}
theorem mki_by (h : P.concrete t = true) (hk : k (.iface t x) σ) : kGen P (.mki t) [x] σ k := by
  intro w hw
  refine ⟨_, w, ?_, Out.same hw hk⟩
  exact run_makeInterface w t x h
theorem tas_by (h : P.concrete u = true) (hk : k v σ) : kGen P (.tas t u false) [.iface u v] σ k := by
  intro w hw
  refine ⟨_, w, ?_, Out.same hw hk⟩
  unfold Program.concrete at h
  show (Instr.typeAssert (.iface u v) t u false).run P w = .ok v w
  cases hd : P.underlying u with
  | none => simp [hd] at h
  | some d => cases d <;> first | (simp [hd] at h; done) | simp [Instr.typeAssert, run_underlying hd]
theorem tas2_by (h : P.concrete u = true) (hk : k (.tuple #[v, .bool true]) σ) : kGen P (.tas t u true) [.iface u v] σ k := by
  intro w hw
  refine ⟨_, w, ?_, Out.same hw hk⟩
  unfold Program.concrete at h
  show (Instr.typeAssert (.iface u v) t u true).run P w = .ok (.tuple #[v, .bool true]) w
  cases hd : P.underlying u with
  | none => simp [hd] at h
  | some d => cases d <;> first | (simp [hd] at h; done) | simp [Instr.typeAssert, run_underlying hd]
theorem cln_by {κ : Type} [KeyT κ] {l : List (κ × Value)} (h1 : extB P f = true) (he : (P.funcs[f]?).bind Extern.find = some Extern.MapsClone.clone) (h : Hs σ X (Mp r none l :: R))
    (hk : ∀ q σ', Hs σ' X (Mp q none l :: Mp r none l :: R) → k (.iface t (.map (some q))) σ') : kGen P (.ext f) [.iface t (.map (some r))] σ k := by
  obtain ⟨F, ⟨es, clk, rfl, h2, h3, h4⟩, _⟩ := h.s
  intro w hw
  have hh : w.heap[r]? = some (mapO es clk) := hw.m r _ h3
  have hs := hw.new_ (o := mapO es clk) (ob := .other (mapO es clk)) (fun _ he => he)
  have hz : w.heap.size = σ.n := hw.sz
  unfold extB at h1
  split at h1
  · rename_i fn hf
    simp only [Bool.and_eq_true, Bool.not_eq_true', Option.isNone_iff_eq_none] at h1
    obtain ⟨⟨g1, g2⟩, g3⟩ := h1
    rw [hf, Option.bind_some] at he
    refine ⟨.iface t (.map (some w.heap.size)), w.alloc (mapO es clk), ?_, ?_⟩
    · have e : Extern.MapsClone.clone #[.iface t (.map (some r))] = (getObj r >>= fun o => match o with
          | .map entries clock => (newObj (.map entries clock) >>= fun n => pure (.iface t (.map (some n))))
          | _ => stuck "maps.clone: a map expected") := rfl
      have e2 : (Extern.MapsClone.clone #[.iface t (.map (some r))]).run P w = .ok (.iface t (.map (some w.heap.size))) (w.alloc (mapO es clk)) := by
        rw [e]
        unfold mapO at hh ⊢
        simp [MapKept.run_getObj_map hh, Result.andThen, go_sem]
      simp only [lkSem, Sem.run_bind, run_callFunc_extern hf g1 (by rw [g2]; rfl) g3 he, e2, Result.andThen_ok, Sem.run_pure]
    · rw [hz]
      refine ⟨KeepP.alloc _ _ _, _, hs, Fol.new _ _, hk _ _ ?_⟩
      exact h.more ((Chg.refl _ _).new _) ⟨es, clk, rfl, h2, new_eq_, rfl⟩ (by simp)
  · cases h1
end
end Go.Proofs.YtpnefcapiiemdaaGreatDoor.E

/- Rows of some cells each, laid flat. Conditions: none. -/
namespace Go.Proofs.YtpnefcapiiemdaaGreatDoor
open E
set_option linter.unusedVariables false
set_option linter.unusedSimpArgs false

/-! ### Rows of cells, z for each -/
section
variable {α : Type} {f : α → List Value} {z : Nat} {L : List α} {sp : List Value} {a a' : α} {i j : Nat} {v : Value}
def flat (f : α → List Value) (L : List α) (sp : List Value) : List Value := (L.map f).flatten ++ sp
theorem flat_len (hf : ∀ a, (f a).length = z) : (flat f L sp).length = L.length * z + sp.length := by
  unfold flat
  rw [List.length_append]
  congr 1
  induction L with
  | nil => simp
  | cons a L ih => rw [List.map_cons, List.flatten_cons, List.length_append, ih, hf, List.length_cons, Nat.succ_mul, Nat.add_comm]
theorem flat_split (hf : ∀ a, (f a).length = z) (hi : L[i]? = some a) : flat f L sp = (flat f (L.take i) []) ++ f a ++ flat f (L.drop (i + 1)) sp ∧ (flat f (L.take i) []).length = i * z := by
  have hlt := (List.getElem?_eq_some_iff.1 hi).1
  refine ⟨?_, ?_⟩
  · unfold flat
    conv => lhs; rw [← List.take_append_drop i L, List.drop_eq_getElem_cons hlt, (List.getElem?_eq_some_iff.1 hi).2]
    simp
  · rw [flat_len hf, List.length_take, List.length_nil]; rw [Nat.min_eq_left (by omega), Nat.add_zero]
theorem flat_get (hf : ∀ a, (f a).length = z) (hi : L[i]? = some a) (hj : j < z) : (flat f L sp)[i * z + j]? = (f a)[j]? := by
  obtain ⟨h1, h2⟩ := flat_split (sp := sp) hf hi
  rw [h1, List.append_assoc, List.getElem?_append_right (by omega), h2, List.getElem?_append_left (by rw [hf]; omega)]
  congr 1; omega
theorem flat_put (hf : ∀ a, (f a).length = z) (hi : L[i]? = some a) (a' : α) : (flat f L sp).take (i * z) ++ f a' ++ (flat f L sp).drop (i * z + z) = flat f (L.set i a') sp := by
  have hlt := (List.getElem?_eq_some_iff.1 hi).1
  have hi' : (L.set i a')[i]? = some a' := by rw [List.getElem?_set_self hlt]
  obtain ⟨h1, h2⟩ := flat_split (sp := sp) hf hi
  obtain ⟨h3, h4⟩ := flat_split (sp := sp) hf hi'
  rw [h3, h1]
  have e1 : (L.set i a').take i = L.take i := by rw [List.take_set, List.set_eq_of_length_le (by rw [List.length_take]; exact Nat.min_le_left _ _)]
  have e2 : (L.set i a').drop (i + 1) = L.drop (i + 1) := by rw [List.drop_set, if_pos (by omega)]
  rw [e1, e2]
  have e3 : (flat f (L.take i) [] ++ f a ++ flat f (L.drop (i + 1)) sp).take (i * z) = flat f (L.take i) [] := by
    rw [List.append_assoc, List.take_append_of_le_length (by omega), List.take_of_length_le (by omega)]
  have e4 : (flat f (L.take i) [] ++ f a ++ flat f (L.drop (i + 1)) sp).drop (i * z + z) = flat f (L.drop (i + 1)) sp := by
    have : (flat f (L.take i) [] ++ f a).length = i * z + z := by rw [List.length_append, h2, hf]
    rw [← this, List.drop_left]
  rw [e3, e4]
theorem flat_set (hf : ∀ a, (f a).length = z) (hi : L[i]? = some a) (hj : j < z) (ha : f a' = (f a).set j v) : (flat f L sp).set (i * z + j) v = flat f (L.set i a') sp := by
  rw [← flat_put hf hi a', ha]
  obtain ⟨h1, h2⟩ := flat_split (sp := sp) hf hi
  have e3 : (flat f L sp).take (i * z) = flat f (L.take i) [] := by
    rw [h1, List.append_assoc, List.take_append_of_le_length (by omega), List.take_of_length_le (by omega)]
  have e4 : (flat f L sp).drop (i * z + z) = flat f (L.drop (i + 1)) sp := by
    have : (flat f (L.take i) [] ++ f a).length = i * z + z := by rw [List.length_append, h2, hf]
    rw [h1, ← this, List.drop_left]
  rw [e3, e4, h1, List.append_assoc, List.append_assoc, List.set_append_right _ _ (by omega), h2, show i * z + j - i * z = j from by omega, List.set_append_left _ _ (by rw [hf]; omega)]
end
end Go.Proofs.YtpnefcapiiemdaaGreatDoor

/- Variables of Go's library that stay as the row says, as things of the state. Conditions: as each theorem says. -/
namespace Go.Proofs.YtpnefcapiiemdaaGreatDoor.E
open Go.RowKit Go.Lib
open Rp
set_option linter.unusedVariables false
set_option linter.unusedSimpArgs false

/-- The state at the start, some blocks as they are in the world. -/
def startT (w : World) (gs : List Nat) : AS := ⟨fun g => if g ∈ gs then (w.heap[g]?).map .other else none, fun b o => if b ∈ gs then none else w.cell? ⟨b, o, none⟩, size w,
  fun g h => by
    by_cases hg : g ∈ gs
    · rw [if_pos hg] at h
      cases hc : w.heap[g]? with
      | none => rw [hc] at h; exact absurd rfl h
      | some o => exact (Array.getElem?_eq_some_iff.1 hc).1
    · rw [if_neg hg] at h; exact absurd rfl h,
  fun b o h => by
    by_cases hb : b ∈ gs
    · rw [if_pos hb] at h; exact absurd rfl h
    · rw [if_neg hb] at h
      refine ⟨?_, if_neg hb⟩
      cases hc : w.cell? ⟨b, o, none⟩ with
      | none => exact (h hc).elim
      | some v => exact block_lt_of_cell hc⟩
section
variable {P : Program} {f : Nat} {args : List Value} {w : World} {gs : List Nat} {g : Nat} {o : Go.Obj} {σ : AS} {X : Ce} {R : List Ck}
theorem sat_startT : Sat (startT w gs) w := by
  refine ⟨rfl, fun g ob h => ?_, fun b o v h => ?_⟩
  · unfold startT at h
    simp only at h
    split at h
    · cases hc : w.heap[g]? with
      | none => rw [hc] at h; cases h
      | some o => rw [hc] at h; cases h; exact hc
    · cases h
  · unfold startT at h
    simp only at h
    split at h
    · cases h
    · exact h
theorem startT_m (hg : g ∈ gs) (ho : w.heap[g]? = some o) : (startT w gs).m g = some (.other o) := by
  unfold startT
  simp only
  rw [if_pos hg, ho]
  rfl
/-- A law begins, some variables as the row says. -/
theorem law_okT (h : kCall P f args (startT w gs) fun v σ' => v = .bool true ∧ ∀ g o, g ∈ gs → w.heap[g]? = some o → σ'.m g = some (.other o)) : callP P f args w fun v w' => v = .bool true ∧ KeepP (fun _ => False) w w' :=
  callP_mono (h w sat_startT) fun v w' ⟨h1, σ', h2, _, h3, h4⟩ => ⟨h3, ⟨h1.os, h1.tape, h1.output, h1.sz, fun k hk _ => by
    by_cases hl : (startT w gs).live k
    · have hg : k ∈ gs := by
        by_cases hg : k ∈ gs
        · exact hg
        · exfalso
          apply hl
          unfold startT
          simp only
          rw [if_neg hg]
      have hs : k < w.heap.size := hk
      have ho : w.heap[k]? = some w.heap[k] := by simp [hs]
      have := h2.m k _ (h4 k _ hg ho)
      rw [ho]
      exact this
    · exact h1.heap k hk hl⟩⟩
theorem Hs.startT0 : Hs (startT w gs) (startT w gs).c [] := ⟨c_le_ld, trivial⟩
/-- Such a block is a thing. -/
theorem Hs.withT (h : Hs σ X R) (hm : σ.m g = some (.other o)) (hx : ¬ inX X g) (hd : ∀ C, C ∈ R → ∀ F X' σ', C.H F X' σ' → g ∉ F) : Hs σ X (Oth g o :: R) := by
  have gen : ∀ (R : List Ck) (A : Nat → Prop), (∀ C, C ∈ R → ∀ F X' σ', C.H F X' σ' → g ∉ F) → Sep X σ R A → Sep X σ R (fun b => A b ∨ b ∈ [g]) := by
    intro R
    induction R with
    | nil => intro _ _ _; trivial
    | cons C R ih =>
      intro A hd ⟨F, h1, h2, h3⟩
      have hgF := hd C (by simp) F X σ h1
      refine ⟨F, h1, fun b hb hA => ?_, ?_⟩
      · rcases hA with hA | hA
        · exact h2 b hb hA
        · simp only [List.mem_singleton] at hA; subst hA; exact hgF hb
      · exact (ih _ (fun C' hC' => hd C' (by simp [hC'])) h3).anti (fun b hb => by
          rcases hb with (hb | hb) | hb
          · exact .inl (.inl hb)
          · exact .inr hb
          · exact .inl (.inr hb))
  refine ⟨h.x, [g], ⟨rfl, hm⟩, fun b hb hi => ?_, gen R _ hd h.s⟩
  simp only [List.mem_singleton] at hb
  subst hb
  exact hx hi
theorem oth_ne {g g' : Nat} {o' : Go.Obj} (h : g ≠ g') : ∀ F X' σ', (Oth g' o').H F X' σ' → g ∉ F := by
  intro F X' σ' hF
  rw [hF.1]
  simp [h]
theorem notX (hg : g ∈ gs) : ¬ inX (startT w gs).c g := by
  rintro ⟨o, ho⟩
  apply ho
  unfold startT
  simp only
  rw [if_pos hg]
/-- Three such blocks. -/
theorem Hs.start3 {g1 g2 g3 : Nat} {o1 o2 o3 : Go.Obj} (h12 : g1 ≠ g2) (h13 : g1 ≠ g3) (h23 : g2 ≠ g3) (e1 : w.heap[g1]? = some o1) (e2 : w.heap[g2]? = some o2) (e3 : w.heap[g3]? = some o3) :
    Hs (startT w [g1, g2, g3]) (startT w [g1, g2, g3]).c [Oth g1 o1, Oth g2 o2, Oth g3 o3] := by
  have a3 := (Hs.startT0 (w := w) (gs := [g1, g2, g3])).withT (g := g3) (startT_m (by simp) e3) (notX (by simp)) (fun C hC => by cases hC)
  have a2 := a3.withT (g := g2) (startT_m (by simp) e2) (notX (by simp)) (fun C hC => by
    simp only [List.mem_singleton] at hC; subst hC; exact oth_ne h23)
  exact a2.withT (g := g1) (startT_m (by simp) e1) (notX (by simp)) (fun C hC => by
    simp only [List.mem_cons, List.not_mem_nil, or_false] at hC
    rcases hC with rfl | rfl
    · exact oth_ne h12
    · exact oth_ne h13)
end

/-! ### What the arguments read does not lie in such blocks -/
/-- Values that data of arguments have: no unsigned numbers of 64 bits, no interface values. -/
def dataV : Value → Prop
  | .int .u64 _ => False
  | .iface _ _ => False
  | .nilIface => False
  | _ => True
class OffT (α : Type) [Rp α] : Prop where
  off : ∀ {w : World} {gs : List Nat} {a : α} {cs : List Value}, (∀ g o v, g ∈ gs → w.cell? ⟨g, o, none⟩ = some v → ¬ dataV v) → rp (start w).c a cs → rp (startT w gs).c a cs ∧ ∀ v, v ∈ cs → dataV v
instance : OffT Int := ⟨fun _ h => ⟨h, fun v hv => by rw [h.1] at hv; simp at hv; subst hv; exact trivial⟩⟩
instance : OffT UInt8 := ⟨fun _ h => ⟨h, fun v hv => by rw [show _ = _ from h] at hv; simp at hv; subst hv; exact trivial⟩⟩
instance : OffT Bool := ⟨fun _ h => ⟨h, fun v hv => by rw [show _ = _ from h] at hv; simp at hv; subst hv; exact trivial⟩⟩
instance (priority := high) : OffT Str := ⟨fun _ h => ⟨h, fun v hv => by rw [h.1] at hv; simp at hv; subst hv; exact trivial⟩⟩
instance {α β : Type} [Rp α] [Rp β] [ha : OffT α] [hb : OffT β] : OffT (α × β) := ⟨fun hg ⟨x, y, h, h1, h2⟩ => by
  obtain ⟨k1, k2⟩ := ha.off hg h1
  obtain ⟨k3, k4⟩ := hb.off hg h2
  refine ⟨⟨x, y, h, k1, k3⟩, fun v hv => ?_⟩
  rw [h] at hv
  rcases List.mem_append.1 hv with hv | hv
  · exact k2 v hv
  · exact k4 v hv⟩
theorem RepL.offT {α : Type} [Rp α] [ha : OffT α] {w : World} {gs : List Nat} {v : Value} {l : List α} (hg : ∀ g o v, g ∈ gs → w.cell? ⟨g, o, none⟩ = some v → ¬ dataV v) (h : RepL (start w).c v l) : RepL (startT w gs).c v l := by
  obtain ⟨a, cap, h1, h2, h3, h4⟩ := h
  refine ⟨a, cap, h1, h2, h3, ?_⟩
  rcases h4 with h4 | ⟨b, o, h5, h6⟩
  · exact .inl h4
  · refine .inr ⟨b, o, h5, fun i hi => ?_⟩
    obtain ⟨cs, k1, k2⟩ := h6 i hi
    obtain ⟨k3, k4⟩ := ha.off hg k1
    refine ⟨cs, k3, fun j u hu => ?_⟩
    have hc : w.cell? ⟨b, o + i * sz α + j, none⟩ = some u := k2 j u hu
    have hb : b ∉ gs := fun hb => hg b _ u hb hc (k4 u (List.mem_of_getElem? hu))
    show (if b ∈ gs then none else w.cell? ⟨b, o + i * sz α + j, none⟩) = some u
    rw [if_neg hb]
    exact hc
instance {α : Type} [Rp α] [OffT α] : OffT (List α) := ⟨fun hg ⟨v, h, h1⟩ => ⟨⟨v, h, h1.offT hg⟩, fun u hu => by
  obtain ⟨a, cap, h2, _⟩ := h1
  rw [h, h2] at hu
  simp at hu
  subst hu
  exact trivial⟩⟩

/-! ### A variable's cells, wherever its block is as it was -/
/-- The variable of that name lies in the block g, which holds these cells. -/
def VarAt (P : Program) (name : String) (g : Nat) (o : Go.Obj) (cs : Array Value) : Prop := P.globalNamed name = some g ∧ ∃ t fz, o = .cells cs t fz
section
variable {P : Program} {w w' : World} {g : Nat} {o : Go.Obj} {cs : Array Value} {name : String} {σ : AS} {X : Ce} {R : List Ck}
theorem VarAt.of (h : w.var? P name = some cs) : ∃ g o, VarAt P name g o cs ∧ w.heap[g]? = some o := by
  unfold World.var? at h
  cases hg : P.globalNamed name with
  | none => rw [hg] at h; cases h
  | some g =>
    rw [hg] at h
    simp only [Option.bind_some] at h
    cases ho : w.heap[g]? with
    | none => rw [ho] at h; cases h
    | some o =>
      rw [ho] at h
      cases o with
      | cells c t fz =>
        simp only [Option.some.injEq] at h
        subst h
        exact ⟨g, _, ⟨hg, t, fz, rfl⟩, ho⟩
      | _ => cases h
theorem VarAt.var (h : VarAt P name g o cs) (ho : w.heap[g]? = some o) : w.var? P name = some cs := by
  obtain ⟨h1, t, fz, rfl⟩ := h
  unfold World.var?
  rw [h1]
  simp only [Option.bind_some, ho]
theorem VarAt.cell (h : VarAt P name g o cs) (ho : w.heap[g]? = some o) {i : Nat} {v : Value} (hv : w.cell? ⟨g, i, none⟩ = some v) : v ∈ cs.toList := by
  obtain ⟨h1, t, fz, rfl⟩ := h
  unfold World.cell? at hv
  simp only [ho] at hv
  simp only [Option.isSome_none, Bool.false_eq_true, if_false] at hv
  exact Array.mem_toList_iff.2 (Array.mem_of_getElem? hv)
theorem Hs.heapT (h : Hs σ X (Oth g o :: R)) (hw : Sat σ w) : w.heap[g]? = some o := hw.m g _ h.oth
end
end Go.Proofs.YtpnefcapiiemdaaGreatDoor.E
