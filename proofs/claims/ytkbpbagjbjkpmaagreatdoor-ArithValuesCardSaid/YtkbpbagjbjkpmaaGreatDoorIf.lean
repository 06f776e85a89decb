/- Interface values made and asserted; maps.Clone's entry. Conditions: as each theorem says. -/
import Derived.Test.YtkbpbagjbjkpmaaGreatDoorMp
import Derived.Laws.Build
namespace Go.Proofs.YtkbpbagjbjkpmaaGreatDoor.E
open Go.RowKit Go.Lib Go.MapKept
set_option linter.unusedVariables false
set_option linter.unusedSimpArgs false

section
variable {P : Program} {k : Value → AS → Prop} {σ : AS} {X : Ce} {R : List Ck} {t u : TypeId} {x v : Value} {f : FuncId} {r : Nat}
theorem mki_by (h : P.concrete t = true) (hk : k (.iface t x) σ) : kGen P (.mki t) [x] σ k := by
  intro w hw
  refine ⟨_, w, ?_, Out.same hw hk⟩
  exact run_makeInterface w t x h
theorem tas_by (h : P.concrete u = true) (hk : k v σ) : kGen P (.tas t u false) [.iface u v] σ k := by
  intro w hw
  refine ⟨_, w, ?_, Out.same hw hk⟩
  unfold Program.concrete at h
  show (Instr.typeAssert (.iface u v) t u false).run P w = .ok v w
  cases hd : P.underlying u with
  | none => simp [hd] at h
  | some d => cases d <;> first | (simp [hd] at h; done) | simp [Instr.typeAssert, run_underlying hd]
theorem tas2_by (h : P.concrete u = true) (hk : k (.tuple #[v, .bool true]) σ) : kGen P (.tas t u true) [.iface u v] σ k := by
  intro w hw
  refine ⟨_, w, ?_, Out.same hw hk⟩
  unfold Program.concrete at h
  show (Instr.typeAssert (.iface u v) t u true).run P w = .ok (.tuple #[v, .bool true]) w
  cases hd : P.underlying u with
  | none => simp [hd] at h
  | some d => cases d <;> first | (simp [hd] at h; done) | simp [Instr.typeAssert, run_underlying hd]
theorem cln_by {κ : Type} [KeyT κ] {l : List (κ × Value)} (h1 : extB P f = true) (he : (P.funcs[f]?).bind Extern.find = some Extern.MapsClone.clone) (h : Hs σ X (Mp r none l :: R))
    (hk : ∀ q σ', Hs σ' X (Mp q none l :: Mp r none l :: R) → k (.iface t (.map (some q))) σ') : kGen P (.ext f) [.iface t (.map (some r))] σ k := by
  obtain ⟨F, ⟨es, clk, rfl, h2, h3, h4⟩, _⟩ := h.s
  intro w hw
  have hh : w.heap[r]? = some (mapO es clk) := hw.m r _ h3
  have hs := hw.new_ (o := mapO es clk) (ob := .other (mapO es clk)) (fun _ he => he)
  have hz : w.heap.size = σ.n := hw.sz
  unfold extB at h1
  split at h1
  · rename_i fn hf
    simp only [Bool.and_eq_true, Bool.not_eq_true', Option.isNone_iff_eq_none] at h1
    obtain ⟨⟨g1, g2⟩, g3⟩ := h1
    rw [hf, Option.bind_some] at he
    refine ⟨.iface t (.map (some w.heap.size)), w.alloc (mapO es clk), ?_, ?_⟩
    · have e : Extern.MapsClone.clone #[.iface t (.map (some r))] = (getObj r >>= fun o => match o with
          | .map entries clock => (newObj (.map entries clock) >>= fun n => pure (.iface t (.map (some n))))
          | _ => stuck "maps.clone: a map expected") := rfl
      have e2 : (Extern.MapsClone.clone #[.iface t (.map (some r))]).run P w = .ok (.iface t (.map (some w.heap.size))) (w.alloc (mapO es clk)) := by
        rw [e]
        unfold mapO at hh ⊢
        simp [MapKept.run_getObj_map hh, Result.andThen, go_sem]
      simp only [lkSem, Sem.run_bind, run_callFunc_extern hf g1 (by rw [g2]; rfl) g3 he, e2, Result.andThen_ok, Sem.run_pure]
    · rw [hz]
      refine ⟨KeepP.alloc _ _ _, _, hs, Fol.new _ _, hk _ _ ?_⟩
      exact h.more ((Chg.refl _ _).new _) ⟨es, clk, rfl, h2, new_eq_, rfl⟩ (by simp)
  · cases h1
end
end Go.Proofs.YtkbpbagjbjkpmaaGreatDoor.E
