/- Variables of Go's library that stay as the row says, as things of the state. Conditions: as each theorem says. -/
import Derived.Test.YtkbpbagjbjkpmaaGreatDoorLb
import Derived.Test.YtkbpbagjbjkpmaaGreatDoorRng
import Derived.Lib.LaidTab
namespace Go.Proofs.YtkbpbagjbjkpmaaGreatDoor.E
open Go.RowKit Go.Lib
open Rp
set_option linter.unusedVariables false
set_option linter.unusedSimpArgs false

/-- The state at the start, some blocks as they are in the world. -/
def startT (w : World) (gs : List Nat) : AS := ⟨fun g => if g ∈ gs then (w.heap[g]?).map .other else none, fun b o => if b ∈ gs then none else w.cell? ⟨b, o, none⟩, size w,
  fun g h => by
    by_cases hg : g ∈ gs
    · rw [if_pos hg] at h
      cases hc : w.heap[g]? with
      | none => rw [hc] at h; exact absurd rfl h
      | some o => exact (Array.getElem?_eq_some_iff.1 hc).1
    · rw [if_neg hg] at h; exact absurd rfl h,
  fun b o h => by
    by_cases hb : b ∈ gs
    · rw [if_pos hb] at h; exact absurd rfl h
    · rw [if_neg hb] at h
      refine ⟨?_, if_neg hb⟩
      cases hc : w.cell? ⟨b, o, none⟩ with
      | none => exact (h hc).elim
      | some v => exact block_lt_of_cell hc⟩
section
variable {P : Program} {f : Nat} {args : List Value} {w : World} {gs : List Nat} {g : Nat} {o : Go.Obj} {σ : AS} {X : Ce} {R : List Ck}
theorem sat_startT : Sat (startT w gs) w := by
  refine ⟨rfl, fun g ob h => ?_, fun b o v h => ?_⟩
  · unfold startT at h
    simp only at h
    split at h
    · cases hc : w.heap[g]? with
      | none => rw [hc] at h; cases h
      | some o => rw [hc] at h; cases h; exact hc
    · cases h
  · unfold startT at h
    simp only at h
    split at h
    · cases h
    · exact h
theorem startT_m (hg : g ∈ gs) (ho : w.heap[g]? = some o) : (startT w gs).m g = some (.other o) := by
  unfold startT
  simp only
  rw [if_pos hg, ho]
  rfl
/-- A law begins, some variables as the row says. -/
theorem law_okT (h : kCall P f args (startT w gs) fun v σ' => v = .bool true ∧ ∀ g o, g ∈ gs → w.heap[g]? = some o → σ'.m g = some (.other o)) : callP P f args w fun v w' => v = .bool true ∧ KeepP (fun _ => False) w w' :=
  callP_mono (h w sat_startT) fun v w' ⟨h1, σ', h2, _, h3, h4⟩ => ⟨h3, ⟨h1.os, h1.tape, h1.output, h1.sz, fun k hk _ => by
    by_cases hl : (startT w gs).live k
    · have hg : k ∈ gs := by
        by_cases hg : k ∈ gs
        · exact hg
        · exfalso
          apply hl
          unfold startT
          simp only
          rw [if_neg hg]
      have hs : k < w.heap.size := hk
      have ho : w.heap[k]? = some w.heap[k] := by simp [hs]
      have := h2.m k _ (h4 k _ hg ho)
      rw [ho]
      exact this
    · exact h1.heap k hk hl⟩⟩
theorem Hs.startT0 : Hs (startT w gs) (startT w gs).c [] := ⟨c_le_ld, trivial⟩
/-- Such a block is a thing. -/
theorem Hs.withT (h : Hs σ X R) (hm : σ.m g = some (.other o)) (hx : ¬ inX X g) (hd : ∀ C, C ∈ R → ∀ F X' σ', C.H F X' σ' → g ∉ F) : Hs σ X (Oth g o :: R) := by
  have gen : ∀ (R : List Ck) (A : Nat → Prop), (∀ C, C ∈ R → ∀ F X' σ', C.H F X' σ' → g ∉ F) → Sep X σ R A → Sep X σ R (fun b => A b ∨ b ∈ [g]) := by
    intro R
    induction R with
    | nil => intro _ _ _; trivial
    | cons C R ih =>
      intro A hd ⟨F, h1, h2, h3⟩
      have hgF := hd C (by simp) F X σ h1
      refine ⟨F, h1, fun b hb hA => ?_, ?_⟩
      · rcases hA with hA | hA
        · exact h2 b hb hA
        · simp only [List.mem_singleton] at hA; subst hA; exact hgF hb
      · exact (ih _ (fun C' hC' => hd C' (by simp [hC'])) h3).anti (fun b hb => by
          rcases hb with (hb | hb) | hb
          · exact .inl (.inl hb)
          · exact .inr hb
          · exact .inl (.inr hb))
  refine ⟨h.x, [g], ⟨rfl, hm⟩, fun b hb hi => ?_, gen R _ hd h.s⟩
  simp only [List.mem_singleton] at hb
  subst hb
  exact hx hi
theorem oth_ne {g g' : Nat} {o' : Go.Obj} (h : g ≠ g') : ∀ F X' σ', (Oth g' o').H F X' σ' → g ∉ F := by
  intro F X' σ' hF
  rw [hF.1]
  simp [h]
theorem notX (hg : g ∈ gs) : ¬ inX (startT w gs).c g := by
  rintro ⟨o, ho⟩
  apply ho
  unfold startT
  simp only
  rw [if_pos hg]
/-- Three such blocks. -/
theorem Hs.start3 {g1 g2 g3 : Nat} {o1 o2 o3 : Go.Obj} (h12 : g1 ≠ g2) (h13 : g1 ≠ g3) (h23 : g2 ≠ g3) (e1 : w.heap[g1]? = some o1) (e2 : w.heap[g2]? = some o2) (e3 : w.heap[g3]? = some o3) :
    Hs (startT w [g1, g2, g3]) (startT w [g1, g2, g3]).c [Oth g1 o1, Oth g2 o2, Oth g3 o3] := by
  have a3 := (Hs.startT0 (w := w) (gs := [g1, g2, g3])).withT (g := g3) (startT_m (by simp) e3) (notX (by simp)) (fun C hC => by cases hC)
  have a2 := a3.withT (g := g2) (startT_m (by simp) e2) (notX (by simp)) (fun C hC => by
    simp only [List.mem_singleton] at hC; subst hC; exact oth_ne h23)
  exact a2.withT (g := g1) (startT_m (by simp) e1) (notX (by simp)) (fun C hC => by
    simp only [List.mem_cons, List.not_mem_nil, or_false] at hC
    rcases hC with rfl | rfl
    · exact oth_ne h12
    · exact oth_ne h13)
end

/-! ### What the arguments read does not lie in such blocks -/
/-- Values that data of arguments have: no unsigned numbers of 64 bits, no interface values. -/
def dataV : Value → Prop
  | .int .u64 _ => False
  | .iface _ _ => False
  | .nilIface => False
  | _ => True
class OffT (α : Type) [Rp α] : Prop where
  off : ∀ {w : World} {gs : List Nat} {a : α} {cs : List Value}, (∀ g o v, g ∈ gs → w.cell? ⟨g, o, none⟩ = some v → ¬ dataV v) → rp (start w).c a cs → rp (startT w gs).c a cs ∧ ∀ v, v ∈ cs → dataV v
instance : OffT Int := ⟨fun _ h => ⟨h, fun v hv => by rw [h.1] at hv; simp at hv; subst hv; exact trivial⟩⟩
instance : OffT UInt8 := ⟨fun _ h => ⟨h, fun v hv => by rw [show _ = _ from h] at hv; simp at hv; subst hv; exact trivial⟩⟩
instance : OffT Bool := ⟨fun _ h => ⟨h, fun v hv => by rw [show _ = _ from h] at hv; simp at hv; subst hv; exact trivial⟩⟩
instance (priority := high) : OffT Str := ⟨fun _ h => ⟨h, fun v hv => by rw [h.1] at hv; simp at hv; subst hv; exact trivial⟩⟩
instance {α β : Type} [Rp α] [Rp β] [ha : OffT α] [hb : OffT β] : OffT (α × β) := ⟨fun hg ⟨x, y, h, h1, h2⟩ => by
  obtain ⟨k1, k2⟩ := ha.off hg h1
  obtain ⟨k3, k4⟩ := hb.off hg h2
  refine ⟨⟨x, y, h, k1, k3⟩, fun v hv => ?_⟩
  rw [h] at hv
  rcases List.mem_append.1 hv with hv | hv
  · exact k2 v hv
  · exact k4 v hv⟩
theorem RepL.offT {α : Type} [Rp α] [ha : OffT α] {w : World} {gs : List Nat} {v : Value} {l : List α} (hg : ∀ g o v, g ∈ gs → w.cell? ⟨g, o, none⟩ = some v → ¬ dataV v) (h : RepL (start w).c v l) : RepL (startT w gs).c v l := by
  obtain ⟨a, cap, h1, h2, h3, h4⟩ := h
  refine ⟨a, cap, h1, h2, h3, ?_⟩
  rcases h4 with h4 | ⟨b, o, h5, h6⟩
  · exact .inl h4
  · refine .inr ⟨b, o, h5, fun i hi => ?_⟩
    obtain ⟨cs, k1, k2⟩ := h6 i hi
    obtain ⟨k3, k4⟩ := ha.off hg k1
    refine ⟨cs, k3, fun j u hu => ?_⟩
    have hc : w.cell? ⟨b, o + i * sz α + j, none⟩ = some u := k2 j u hu
    have hb : b ∉ gs := fun hb => hg b _ u hb hc (k4 u (List.mem_of_getElem? hu))
    show (if b ∈ gs then none else w.cell? ⟨b, o + i * sz α + j, none⟩) = some u
    rw [if_neg hb]
    exact hc
instance {α : Type} [Rp α] [OffT α] : OffT (List α) := ⟨fun hg ⟨v, h, h1⟩ => ⟨⟨v, h, h1.offT hg⟩, fun u hu => by
  obtain ⟨a, cap, h2, _⟩ := h1
  rw [h, h2] at hu
  simp at hu
  subst hu
  exact trivial⟩⟩

/-! ### A variable's cells, wherever its block is as it was -/
/-- The variable of that name lies in the block g, which holds these cells. -/
def VarAt (P : Program) (name : String) (g : Nat) (o : Go.Obj) (cs : Array Value) : Prop := P.globalNamed name = some g ∧ ∃ t fz, o = .cells cs t fz
section
variable {P : Program} {w w' : World} {g : Nat} {o : Go.Obj} {cs : Array Value} {name : String} {σ : AS} {X : Ce} {R : List Ck}
theorem VarAt.of (h : w.var? P name = some cs) : ∃ g o, VarAt P name g o cs ∧ w.heap[g]? = some o := by
  unfold World.var? at h
  cases hg : P.globalNamed name with
  | none => rw [hg] at h; cases h
  | some g =>
    rw [hg] at h
    simp only [Option.bind_some] at h
    cases ho : w.heap[g]? with
    | none => rw [ho] at h; cases h
    | some o =>
      rw [ho] at h
      cases o with
      | cells c t fz =>
        simp only [Option.some.injEq] at h
        subst h
        exact ⟨g, _, ⟨hg, t, fz, rfl⟩, ho⟩
      | _ => cases h
theorem VarAt.var (h : VarAt P name g o cs) (ho : w.heap[g]? = some o) : w.var? P name = some cs := by
  obtain ⟨h1, t, fz, rfl⟩ := h
  unfold World.var?
  rw [h1]
  simp only [Option.bind_some, ho]
theorem VarAt.cell (h : VarAt P name g o cs) (ho : w.heap[g]? = some o) {i : Nat} {v : Value} (hv : w.cell? ⟨g, i, none⟩ = some v) : v ∈ cs.toList := by
  obtain ⟨h1, t, fz, rfl⟩ := h
  unfold World.cell? at hv
  simp only [ho] at hv
  simp only [Option.isSome_none, Bool.false_eq_true, if_false] at hv
  exact Array.mem_toList_iff.2 (Array.mem_of_getElem? hv)
theorem Hs.heapT (h : Hs σ X (Oth g o :: R)) (hw : Sat σ w) : w.heap[g]? = some o := hw.m g _ h.oth
end
end Go.Proofs.YtkbpbagjbjkpmaaGreatDoor.E
