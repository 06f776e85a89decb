/- A number's digits. Conditions: as each theorem says. -/
import Derived.Test.YtpnefcapiiemdaaGreatDoorOe
import Derived.Test.YtpnefcapiiemdaaGreatDoorC
import Derived.Lib.ItoaNum
import Derived.Test.YtpnefcapiiemdaaGreatDoorU
import Derived.Stop.LaidErr
namespace Go.Proofs.YtpnefcapiiemdaaGreatDoor
open E Go.Lib
set_option linter.unusedVariables false
set_option linter.unusedSimpArgs false
set_option maxHeartbeats 1000000
set_option maxRecDepth 20000
abbrev powV : Array Value := (Lib.pow10Tab.map fun z => Value.int .u64 z).toArray
section
variable {σ σ' : AS} {X : Ce} {R : List Ck} {k : Value → AS → Prop} {n : Int} {g : Nat} {o : Go.Obj}
/-- What lay in the world stays, where numbers were drawn and blocks laid behind. -/
theorem stays_behind (w : World) (q : Nat) (os : Array Go.Obj) : RowKit.Below w.heap.size w (Go.Sort.grow (w.drewN q) os) := by
  refine ⟨rfl, rfl, rfl, by simp [Go.Sort.grow], fun i hi => ?_⟩
  have e : (Go.Sort.grow (w.drewN q) os).heap = w.heap ++ os := rfl
  rw [e, Array.getElem?_append_left hi]
theorem text_c (T : VarAt Tryz.prog "internal/strconv.uint64pow10" g o powV) (hn : inI64 n) (i : Nat) (h : Hs σ X R) (hg : R[i]? = some (Oth g o)) (hk : ∀ σ', Hs σ' X R → k (.string (bs (itoa n))) σ') : kCall Tryz.prog 27 [.int .i64 n] σ k := by
  refine f27 ?_
  (simp (maxSteps := 1000000) (dsimp := false) (disch := (first | omega | (simp only [okR]; done) | (simp only [sizeR] <;> omega) | fail)) only [↓preR, postR, ↓w_join, Nat.reduceEqDiff, Nat.reduceAdd, Nat.reduceSub, Nat.reduceMul, Int.reduceNeg, Nat.reduceLT, Int.reduceToNat, Nat.reduceLeDiff, Nat.sub_zero, F27])
  refine below_by (v := .string (bs (itoa n))) (fun w hw => ?_) (fun j => ?_)
  · have ht : Lib.TabIs Tryz.prog w "internal/strconv.uint64pow10" .u64 Lib.pow10Tab := T.var ((h.front i hg).heapT hw)
    refine Calls.mono (Any.strconv_Itoa Tryz.lays171 n hn.1 hn.2 w ht) fun e w' ⟨he, kk, os, hw'⟩ => ⟨he, ?_⟩
    subst hw'
    exact stays_behind w kk os
  · exact hk _ (h.up j)
end
end Go.Proofs.YtpnefcapiiemdaaGreatDoor
namespace Go.Proofs.YtpnefcapiiemdaaGreatDoor
open E Go.Lib
set_option linter.unusedVariables false
set_option linter.unusedSimpArgs false
theorem errName (u : TypeId) (h : Tryz.prog.typeName? 3 u = some "*errors.errorString") : u = 135 :=
  typeName_ptr_named (nm := "errors.errorString") (by rw [show "*" ++ "errors.errorString" = "*errors.errorString" from by decide]; kernel_rfl) (by kernel_rfl) (by decide) u (by rw [show "*" ++ "errors.errorString" = "*errors.errorString" from by decide]; exact h)
section
variable {W : World} {r : List (String × DataW Unit)} {n : String} {text : List UInt8} {g te : Nat} {o : Go.Obj} {pe : Value}
/-- A sentinel of the library. -/
theorem err_at (hg : Tryz.prog.globalNamed n = some g) (ht : (Tryz.prog.globals[g]?).map (·.type) = some 77) (h : laidMet Tryz.prog ((n, .iface "*errors.errorString" (.ptr (.agg [.lit (.string text)]))) :: r) W) : ∃ te pe, W.cell? ⟨g, 0, none⟩ = some (.iface te pe) := by
  obtain ⟨a, s, h1, _⟩ := laid_sentinel h hg ht Tryz.underlying77 errName Tryz.underlying135 Tryz.underlying137 rfl rfl Tryz.underlying9 (by kernel_rfl) (by kernel_rfl)
  exact ⟨_, _, by simpa using World.var?_cell hg h1 0⟩
/-- The table of tens. -/
theorem pow_at (h : laidMet Tryz.prog (("internal/strconv.uint64pow10", Lib.tabData .u64 Lib.pow10Tab) :: r) W) : ∃ g o, VarAt Tryz.prog "internal/strconv.uint64pow10" g o powV ∧ W.heap[g]? = some o :=
  VarAt.of (Lib.tabIs_of_head (g := 0) (by kernel_rfl) (t := 113) (by kernel_rfl) Tryz.underlying113 Tryz.underlying94 (by kernel_rfl) (by kernel_rfl) h)
theorem pow_u (T : VarAt Tryz.prog "internal/strconv.uint64pow10" g o powV) (ho : W.heap[g]? = some o) {g' i : Nat} {v : Value} (hg : g' ∈ [g]) (hv : W.cell? ⟨g', i, none⟩ = some v) : ∃ z, v = .int .u64 z := by
  simp only [List.mem_singleton] at hg
  subst hg
  have := T.cell ho hv
  simp only [powV, List.mem_map] at this
  obtain ⟨z, _, rfl⟩ := this
  exact ⟨z, rfl⟩
theorem pow_no (T : VarAt Tryz.prog "internal/strconv.uint64pow10" g o powV) (ho : W.heap[g]? = some o) {g' i : Nat} {v : Value} (hg : g' ∈ [g]) (hv : W.cell? ⟨g', i, none⟩ = some v) : ¬ dataV v := by
  obtain ⟨z, rfl⟩ := pow_u T ho hg hv
  exact id
/-- A sentinel stays in sight. -/
theorem err_in {e : Nat} (T : VarAt Tryz.prog "internal/strconv.uint64pow10" g o powV) (ho : W.heap[g]? = some o) (hE : W.cell? ⟨e, 0, none⟩ = some (.iface te pe)) : (startT W [g]).c e 0 = some (.iface te pe) := by
  have hne : e ∉ [g] := fun h => by
    obtain ⟨z, hz⟩ := pow_u T ho h hE
    cases hz
  show (if e ∈ [g] then none else W.cell? ⟨e, 0, none⟩) = _
  rw [if_neg hne]
  exact hE
/-- A law begins, the table a thing. -/
theorem law_pow {f : Nat} {args : List Value} (T : VarAt Tryz.prog "internal/strconv.uint64pow10" g o powV) (ho : W.heap[g]? = some o) (h : ∀ σ, Hs σ (startT W [g]).c [Oth g o] → kCall Tryz.prog f args σ fun v σ' => v = .bool true ∧ Hs σ' (startT W [g]).c [Oth g o]) : callP Tryz.prog f args W fun v w' => v = .bool true ∧ KeepP (fun _ => False) W w' := by
  have h0 : Hs (startT W [g]) (startT W [g]).c [Oth g o] := Hs.startT0.withT (startT_m (by simp) ho) (notX (by simp)) (fun C hC => by cases hC)
  refine law_okT (gs := [g]) fun w hw => callP_mono (h _ h0 w hw) fun v w' ⟨k1, σ', k2, k3, h1, h2⟩ => ⟨k1, σ', k2, k3, h1, fun g' o' hg' ho' => ?_⟩
  simp only [List.mem_singleton] at hg'
  subst hg'
  rw [ho] at ho'
  cases ho'
  exact h2.oth
end
end Go.Proofs.YtpnefcapiiemdaaGreatDoor
