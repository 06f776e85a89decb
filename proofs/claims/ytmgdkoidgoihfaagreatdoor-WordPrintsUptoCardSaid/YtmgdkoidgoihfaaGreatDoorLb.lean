/- A function of Go's library by its contract: what was there stays, new blocks may come. Conditions: none. -/
import Derived.Test.YtmgdkoidgoihfaaGreatDoorAt
import Derived.Below
namespace Go.Proofs.YtmgdkoidgoihfaaGreatDoor.E
open Go.RowKit
set_option linter.unusedVariables false
set_option linter.unusedSimpArgs false

section
variable {P : Program} {σ : AS} {w w' : World}
theorem Sat.below (hw : Sat σ w) (hb : Below w.heap.size w w') : Sat (σ.up (size w' - size w)) w' := by
  have hs := hb.size
  have hsz := hw.sz
  refine ⟨?_, fun g ob hg => obAt_congr (hb.block g ?_) (hw.m g ob hg), fun b o v hv => ?_⟩
  · rw [up_n, ← hsz]; simp only [size] at hs ⊢; omega
  · have : g < σ.n := AS.lt hg
    simp only [size] at hsz; omega
  · have : b < σ.n := AS.ltc hv
    rw [hb.cell (by simp only [size] at hsz; show b < _; omega)]
    exact hw.c b o v hv
theorem KeepP.ofBelow {S : Nat → Prop} (hb : Below w.heap.size w w') : KeepP S w w' := ⟨hb.os, hb.tape, hb.output, hb.size, fun k hk _ => hb.block k hk⟩
/-- A contract that leaves what was there. -/
theorem below_by {f : Nat} {args : List Value} {v : Value} {k : Value → AS → Prop} (h : ∀ w, Sat σ w → Calls P f args.toArray w fun e w' => e = .returned v ∧ Below w.heap.size w w') (hk : ∀ j, k v (σ.up j)) : kCall P f args σ k := by
  intro w hw
  refine Calls.mono (h w hw) fun e w' ⟨he, hb⟩ => ⟨v, he, KeepP.ofBelow hb, _, hw.below hb, Fol.up _ _, hk _⟩
/-- The same, the answer one of some. -/
theorem below_ex {f : Nat} {args : List Value} {Q : Value → Prop} {k : Value → AS → Prop} (h : ∀ w, Sat σ w → Calls P f args.toArray w fun e w' => (∃ v, e = .returned v ∧ Q v) ∧ Below w.heap.size w w') (hk : ∀ v j, Q v → k v (σ.up j)) : kCall P f args σ k := by
  intro w hw
  refine Calls.mono (h w hw) fun e w' ⟨⟨v, he, hq⟩, hb⟩ => ⟨v, he, KeepP.ofBelow hb, _, hw.below hb, Fol.up _ _, hk _ _ hq⟩
end
end Go.Proofs.YtmgdkoidgoihfaaGreatDoor.E
