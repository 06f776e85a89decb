/- Processes: what stays true of a table whatever is called; a call of the statements' own. Conditions: as each theorem says. -/
import Derived.Test.YtkponloccimdlaaPrE
namespace Go.Proofs.Ytkponloccimdlaa
open E Go.Lib PT
set_option linter.unusedVariables false
set_option linter.unusedSimpArgs false
set_option maxHeartbeats 1000000
set_option maxRecDepth 20000

/-- Keys in their range, states of the three, parents that live, no ring. -/
structure Inv (f : PV) (most : Int) : Prop where
  keys : ∀ i c, f i = some c → 1 ≤ i ∧ i ≤ most
  st : ∀ i c, f i = some c → c.st = 1 ∨ c.st = 2 ∨ c.st = 3
  par : ∀ i c, f i = some c → c.par = 0 ∨ f.liv c.par = true
  zom : ∀ i c, f i = some c → c.st = 3 → c.par ≠ 0
  rk : ∃ rk : Int → Nat, ∀ i c, f i = some c → c.par ≠ 0 → rk c.par < rk i
namespace PV
variable {f : PV} {most pid par i : Int} {c : Pr}
theorem liv_iff : f.liv i = true ↔ ∃ c, f i = some c ∧ c.st ≠ 3 := by
  unfold liv
  cases f i with
  | none => simp
  | some c => simp
theorem inv_zero : Inv (fun _ => none) most := ⟨by simp, by simp, by simp, by simp, fun _ => 0, by simp⟩
theorem inv_fork (h : Inv f most) (hp : f.liv par = true ∨ par = 0) (h1 : 1 ≤ pid) (h2 : pid ≤ most) (hn : f pid = none) : Inv (f.put pid (some ⟨1, par, 0⟩)) most := by
  have hl : ∀ j, f.liv j = true → (f.put pid (some ⟨1, par, 0⟩)).liv j = true := by
    intro j hj
    obtain ⟨c, hc, hs⟩ := liv_iff.1 hj
    refine liv_iff.2 ⟨c, ?_, hs⟩
    unfold put
    rw [if_neg (by rintro rfl; rw [hn] at hc; cases hc)]
    exact hc
  have key : ∀ {Q : Int → Pr → Prop}, (∀ i c, f i = some c → Q i c) → Q pid ⟨1, par, 0⟩ → ∀ i c, (f.put pid (some ⟨1, par, 0⟩)) i = some c → Q i c := by
    intro Q hq hp i c hc
    unfold put at hc
    split at hc
    · rename_i e; subst e; injection hc with hc; subst hc; exact hp
    · exact hq i c hc
  refine ⟨key h.keys ⟨h1, h2⟩, key h.st (.inl rfl), key (fun i c hc => (h.par i c hc).imp_right (hl _)) ?_, key h.zom (fun e => by cases e), ?_⟩
  · rcases hp with hp | hp
    · exact .inr (hl _ hp)
    · exact .inl hp
  · obtain ⟨rk, hrk⟩ := h.rk
    have hne : ∀ j, f.liv j = true → j ≠ pid := by
      rintro j hj rfl
      obtain ⟨c, hc, _⟩ := liv_iff.1 hj
      rw [hn] at hc; cases hc
    refine ⟨fun j => if j = pid then rk par + 1 else rk j, key (fun i c hc h0 => ?_) (fun h0 => ?_)⟩
    · have hi : i ≠ pid := by rintro rfl; rw [hn] at hc; cases hc
      have hp' : c.par ≠ pid := hne _ ((h.par i c hc).resolve_left h0)
      simp only [hi, hp', if_false]
      exact hrk i c hc h0
    · have hp' : par ≠ pid := hne _ (hp.resolve_right h0)
      simp only [hp', if_false, if_true]
      omega
theorem turn_at (f : PV) (i s j : Int) : (f.turn i s) j = if f.liv i = true ∧ j = i then (f i).map fun c => ⟨s, c.par, c.sta⟩ else f j := by
  unfold turn put
  cases f.liv i
  · simp
  · simp
theorem inv_turn {s : Int} (h : Inv f most) (hs : s = 1 ∨ s = 2) (i : Int) : Inv (f.turn i s) most := by
  have hl : ∀ j, f.liv j = true → (f.turn i s).liv j = true := by
    intro j hj
    obtain ⟨c, hc, hs'⟩ := liv_iff.1 hj
    rw [liv_iff, turn_at]
    split
    · rename_i hx
      rw [← hx.2, hc]
      exact ⟨_, rfl, by rcases hs with rfl | rfl <;> simp⟩
    · exact ⟨c, hc, hs'⟩
  have key : ∀ {Q : Int → Pr → Prop}, (∀ j c, f j = some c → Q j c) → (∀ c, f i = some c → c.st ≠ 3 → Q i ⟨s, c.par, c.sta⟩) → ∀ j c, (f.turn i s) j = some c → Q j c := by
    intro Q hq hp j c hc
    rw [turn_at] at hc
    split at hc
    · rename_i hx
      obtain ⟨h1, rfl⟩ := hx
      obtain ⟨c0, h2, h3⟩ := liv_iff.1 h1
      rw [h2] at hc
      injection hc with hc
      subst hc
      exact hp c0 h2 h3
    · exact hq j c hc
  refine ⟨key h.keys (fun c hc _ => h.keys i c hc), key h.st (fun c _ _ => by rcases hs with rfl | rfl <;> simp), key (fun j c hc => (h.par j c hc).imp_right (hl _)) (fun c hc _ => (h.par i c hc).imp_right (hl _)), key h.zom (fun c hc _ e => by rcases hs with rfl | rfl <;> simp at e), ?_⟩
  obtain ⟨rk, hrk⟩ := h.rk
  exact ⟨rk, key hrk (fun c hc _ => hrk i c hc)⟩
theorem inv_gone (h : Inv f most) (hc : f i = some c) (hz : c.st = 3) : Inv (f.put i none) most := by
  have hl : ∀ j, f.liv j = true → (f.put i none).liv j = true := by
    intro j hj
    obtain ⟨d, hd, hs⟩ := liv_iff.1 hj
    refine liv_iff.2 ⟨d, ?_, hs⟩
    unfold put
    rw [if_neg (by rintro rfl; rw [hc] at hd; injection hd with hd; subst hd; exact hs hz)]
    exact hd
  have key : ∀ {Q : Int → Pr → Prop}, (∀ j c, f j = some c → Q j c) → ∀ j c, (f.put i none) j = some c → Q j c := by
    intro Q hq j d hd
    unfold put at hd
    split at hd
    · cases hd
    · exact hq j d hd
  obtain ⟨rk, hrk⟩ := h.rk
  exact ⟨key h.keys, key h.st, key (fun j d hd => (h.par j d hd).imp_right (hl _)), key h.zom, rk, key hrk⟩
theorem no_self (h : Inv f most) (hc : f i = some c) (h0 : i ≠ 0) : c.par ≠ i := by
  obtain ⟨rk, hrk⟩ := h.rk
  intro e
  have := hrk i c hc (by rw [e]; exact h0)
  rw [e] at this
  omega
/-- What Exit makes of each process. -/
theorem exit_at {sta : Int} {w : Bool} {p : Pr} (h : Inv f most) (hp : f pid = some p) (hl : p.st ≠ 3) (hw : Took (f.dead pid sta) (f.heirOf pid) pid w) :
    ((f.exit pid sta w) pid = if p.par = 0 then none else some ⟨3, p.par, sta⟩) ∧
    (∀ i, i ≠ pid → (f i).bind (swept (f.heirOf pid) pid) = none → (f.exit pid sta w) i = none) ∧
    (∀ i c, i ≠ pid → (f i).bind (swept (f.heirOf pid) pid) = some c → ∃ s, (f.exit pid sta w) i = some ⟨s, c.par, c.sta⟩ ∧ (s = c.st ∨ (c.st ≠ 3 ∧ s = 1))) := by
  have hp0 : pid ≠ 0 := by have := (h.keys pid p hp).1; omega
  have hself := no_self h hp hp0
  have hok := heir_ok (f := f) (sta := sta) hp0
  have hg : f.get pid = p := by unfold get; rw [hp]; rfl
  have hh : f.heirOf pid ≠ pid := by
    intro e
    rcases hok.is with h0 | h0
    · rw [h0] at e; exact hp0 e.symm
    · unfold heirOf at h0 e
      split at h0
      · rename_i hx; rw [if_pos hx] at e; exact hx.1 e.symm
      · cases h0
  -- what stands there when the children are gone through
  have hd1 : (f.dead pid sta).done (f.heirOf pid) pid w pid = some ⟨3, p.par, sta⟩ := by
    unfold done
    rw [if_neg (fun e => hh e.2.symm)]
    unfold dead put
    rw [if_pos rfl, hg]
    simp [swept, hself]
  have hd2 : ∀ i, i ≠ pid → (f.dead pid sta) i = f i := fun i hi => by unfold dead put; rw [if_neg hi]
  have hd3 : ∀ i, i ≠ pid → (f i).bind (swept (f.heirOf pid) pid) = none → (f.dead pid sta).done (f.heirOf pid) pid w i = none := by
    intro i hi hn
    unfold done
    rw [hd2 i hi, hn]
    split
    · rename_i hx
      have h1 := hw.1 hx.1
      rcases hok.is with h0 | h0
      · exact absurd h0 h1.1
      · obtain ⟨c1, h2, h3, h4⟩ := hok.at_ h0
        have : i = 1 := hx.2.trans h0
        subst this
        rw [hd2 1 hi] at h2
        rw [h2] at hn
        exfalso
        have : c1.par ≠ pid := by rw [h4]; exact hp0.symm
        simp [swept, this] at hn
    · rfl
  have hd4 : ∀ i c, i ≠ pid → (f i).bind (swept (f.heirOf pid) pid) = some c → ∃ s, (f.dead pid sta).done (f.heirOf pid) pid w i = some ⟨s, c.par, c.sta⟩ ∧ (s = c.st ∨ (c.st ≠ 3 ∧ s = 1)) := by
    intro i c hi hs
    unfold done
    rw [hd2 i hi, hs]
    split
    · rename_i hx
      have h1 := hw.1 hx.1
      rcases hok.is with h0 | h0
      · exact absurd h0 h1.1
      · obtain ⟨c1, h2, h3, h4⟩ := hok.at_ h0
        have : i = 1 := hx.2.trans h0
        subst this
        rw [hd2 1 hi] at h2
        rw [h2] at hs ⊢
        have hne : c1.par ≠ pid := by rw [h4]; exact hp0.symm
        simp [swept, hne] at hs
        subst hs
        exact ⟨1, rfl, .inr ⟨h3, rfl⟩⟩
    · exact ⟨c.st, rfl, .inl rfl⟩
  unfold exit
  rw [hg]
  generalize (f.dead pid sta).done (f.heirOf pid) pid w = g at hd1 hd3 hd4
  unfold leave
  by_cases h0 : p.par = 0
  · rw [if_pos h0, if_pos h0]
    refine ⟨by unfold put; rw [if_pos rfl], fun i hi hn => ?_, fun i c hi hs => ?_⟩
    · unfold put; rw [if_neg hi]; exact hd3 i hi hn
    · unfold put; rw [if_neg hi]; exact hd4 i c hi hs
  · rw [if_neg h0, if_neg h0, hd1]
    have hpar : p.par ≠ pid := hself
    refine ⟨?_, fun i hi hn => ?_, fun i c hi hs => ?_⟩
    · rw [turn_at, if_neg (fun e => hpar e.2.symm)]
      unfold put
      rw [if_pos rfl]; rfl
    · rw [turn_at]
      split
      · rename_i hx
        rw [← hx.2]
        unfold put
        rw [if_neg hi, hd3 i hi hn]; rfl
      · unfold put; rw [if_neg hi]; exact hd3 i hi hn
    · obtain ⟨s, h1, h2⟩ := hd4 i c hi hs
      rw [turn_at]
      split
      · rename_i hx
        rw [← hx.2]
        have hlv := hx.1
        rw [← hx.2, liv_iff] at hlv
        obtain ⟨d, hd, hds⟩ := hlv
        unfold put at hd ⊢
        rw [if_neg hi, h1] at hd
        rw [if_neg hi, h1]
        injection hd with hd
        subst hd
        refine ⟨1, rfl, ?_⟩
        rcases h2 with rfl | ⟨h2, rfl⟩
        · exact .inr ⟨hds, rfl⟩
        · exact .inr ⟨h2, rfl⟩
      · refine ⟨s, ?_, h2⟩
        unfold put; rw [if_neg hi]; exact h1
theorem inv_exit {sta : Int} {w : Bool} (h : Inv f most) (hl : f.liv pid = true) (hw : Took (f.dead pid sta) (f.heirOf pid) pid w) : Inv (f.exit pid sta w) most := by
  obtain ⟨p, hp, hs⟩ := liv_iff.1 hl
  obtain ⟨e1, e2, e3⟩ := exit_at h hp hs hw
  have hp0 : pid ≠ 0 := by have := (h.keys pid p hp).1; omega
  have hok := heir_ok (f := f) (sta := sta) hp0
  have hself := no_self h hp hp0
  generalize f.exit pid sta w = g at e1 e2 e3
  -- who lived and was another one lives
  have hlv : ∀ j, j ≠ pid → f.liv j = true → g.liv j = true := by
    intro j hj hjl
    obtain ⟨d, hd, hds⟩ := liv_iff.1 hjl
    have : ∃ c, (f j).bind (swept (f.heirOf pid) pid) = some c ∧ c.st = d.st := by
      rw [hd]
      unfold swept
      simp only [Option.bind_some, hds, false_and, if_false]
      split
      · exact ⟨_, rfl, rfl⟩
      · exact ⟨_, rfl, rfl⟩
    obtain ⟨c, hc, hcs⟩ := this
    obtain ⟨s, h1, h2⟩ := e3 j c hj hc
    refine liv_iff.2 ⟨_, h1, ?_⟩
    rcases h2 with rfl | ⟨_, rfl⟩
    · show c.st ≠ 3; rw [hcs]; exact hds
    · simp
  have hheir : f.heirOf pid = 1 → g.liv 1 = true ∧ pid ≠ 1 := by
    intro h0
    unfold heirOf at h0
    split at h0
    · rename_i hx
      exact ⟨hlv 1 (Ne.symm hx.1) hx.2.1, hx.1⟩
    · cases h0
  -- each that is there now
  have back : ∀ i d, g i = some d → (i = pid ∧ p.par ≠ 0 ∧ d = ⟨3, p.par, sta⟩) ∨ (i ≠ pid ∧ ∃ c, f i = some c ∧ (d.st = 3 → c.st = 3) ∧ (d.st = c.st ∨ d.st = 1) ∧ ((c.par = pid ∧ d.par = f.heirOf pid ∧ (c.st = 3 → f.heirOf pid ≠ 0)) ∨ (c.par ≠ pid ∧ d.par = c.par))) := by
    intro i d hd
    by_cases hi : i = pid
    · subst hi
      rw [e1] at hd
      split at hd
      · cases hd
      · rename_i h0; injection hd with hd; exact .inl ⟨rfl, h0, hd.symm⟩
    · refine .inr ⟨hi, ?_⟩
      cases hb : (f i).bind (swept (f.heirOf pid) pid) with
      | none => rw [e2 i hi hb] at hd; cases hd
      | some c0 =>
        obtain ⟨s, h1, h2⟩ := e3 i c0 hi hb
        rw [h1] at hd
        injection hd with hd
        subst hd
        cases hf : f i with
        | none => rw [hf] at hb; cases hb
        | some c =>
          rw [hf] at hb
          have hb : swept (f.heirOf pid) pid c = some c0 := hb
          unfold swept at hb
          split at hb
          · rename_i hcp
            split at hb
            · cases hb
            · rename_i hn
              injection hb with hb
              subst hb
              refine ⟨c, rfl, fun e => ?_, ?_, .inl ⟨hcp, rfl, fun e h0 => hn ⟨e, h0⟩⟩⟩
              · rcases h2 with rfl | ⟨_, rfl⟩
                · exact e
                · cases e
              · rcases h2 with rfl | ⟨_, rfl⟩
                · exact .inl rfl
                · exact .inr rfl
          · rename_i hcp
            injection hb with hb
            subst hb
            refine ⟨c, rfl, fun e => ?_, ?_, .inr ⟨hcp, rfl⟩⟩
            · rcases h2 with rfl | ⟨_, rfl⟩
              · exact e
              · cases e
            · rcases h2 with rfl | ⟨_, rfl⟩
              · exact .inl rfl
              · exact .inr rfl
  refine ⟨fun i d hd => ?_, fun i d hd => ?_, fun i d hd => ?_, fun i d hd hz => ?_, ?_⟩
  · rcases back i d hd with ⟨rfl, _, _⟩ | ⟨_, c, hc, _⟩
    · exact h.keys _ p hp
    · exact h.keys i c hc
  · rcases back i d hd with ⟨_, _, rfl⟩ | ⟨_, c, hc, _, h2, _⟩
    · exact .inr (.inr rfl)
    · rcases h2 with h2 | h2
      · rw [h2]; exact h.st i c hc
      · exact .inl h2
  · rcases back i d hd with ⟨_, h0, rfl⟩ | ⟨hi, c, hc, _, _, h3 | h3⟩
    · exact .inr (hlv _ hself ((h.par pid p hp).resolve_left h0))
    · rw [h3.2.1]
      rcases hok.is with h0 | h0
      · exact .inl h0
      · rw [h0]; exact .inr (hheir h0).1
    · rw [h3.2]
      rcases h.par i c hc with h0 | h0
      · exact .inl h0
      · exact .inr (hlv _ h3.1 h0)
  · rcases back i d hd with ⟨_, h0, rfl⟩ | ⟨hi, c, hc, h1, _, h3 | h3⟩
    · exact h0
    · rw [h3.2.1]; exact h3.2.2 (h1 hz)
    · rw [h3.2]; exact h.zom i c hc (h1 hz)
  · obtain ⟨rk, hrk⟩ := h.rk
    refine ⟨fun j => if f.heirOf pid = 1 ∧ j = 1 then 0 else rk j + 1, fun i d hd h0 => ?_⟩
    have hone : f.heirOf pid = 1 → ∀ d, g 1 = some d → d.par = 0 := by
      intro hh d hd
      obtain ⟨c1, h1, _, h3⟩ := hok.at_ hh
      have hne := (hheir hh).2
      have h1' : f 1 = some c1 := by
        unfold dead put at h1
        rw [if_neg (Ne.symm hne)] at h1
        exact h1
      rcases back 1 d hd with ⟨e, _⟩ | ⟨_, c, hc, _, _, h4 | h4⟩
      · exact absurd e.symm hne
      · rw [h1'] at hc; injection hc with hc; subst hc; rw [h3] at h4; exact absurd h4.1.symm hp0
      · rw [h1'] at hc; injection hc with hc; subst hc; rw [h4.2]; exact h3
    by_cases hi1 : f.heirOf pid = 1 ∧ i = 1
    · obtain ⟨hh, rfl⟩ := hi1
      exact absurd (hone hh d hd) h0
    simp only [hi1, if_false]
    split
    · omega
    · rename_i hp1
      rcases back i d hd with ⟨rfl, _, rfl⟩ | ⟨hi, c, hc, _, _, h3 | h3⟩
      · have := hrk _ p hp h0
        simp only at this ⊢
        omega
      · rcases hok.is with h5 | h5
        · rw [h3.2.1, h5] at h0; exact absurd rfl h0
        · exact absurd ⟨h5, by rw [h3.2.1, h5]⟩ hp1
      · rw [h3.2] at h0 ⊢
        have := hrk i c hc h0
        omega
end PV
/-- What a call answers, what it leaves. -/
def DoR (f : PV) (most ask p n a b e : Int) (f' : PV) : Prop :=
  (e ≠ 0 ∧ a = 0 ∧ b = 0 ∧ f' = f) ∨
  (ask = 0 ∧ e = 0 ∧ b = 0 ∧ 1 ≤ a ∧ a ≤ most ∧ f a = none ∧ (f.liv p = true ∨ p = 0) ∧ f' = f.put a (some ⟨1, p, 0⟩)) ∨
  (e = 0 ∧ a = 0 ∧ b = 0 ∧ (ask = 1 ∧ f' = f.turn p 2 ∨ ask = 2 ∧ f' = f.turn p 1)) ∨
  (ask = 3 ∧ e = 0 ∧ a = 0 ∧ b = 0 ∧ f.liv p = true ∧ ∃ w, PV.Took (f.dead p n) (f.heirOf p) p w ∧ f' = f.exit p n w) ∨
  (ask ≠ 0 ∧ ask ≠ 1 ∧ ask ≠ 2 ∧ ask ≠ 3 ∧ e = 0 ∧ ∃ c, f a = some c ∧ kid p n a c ∧ c.st = 3 ∧ b = c.sta ∧ f' = f.put a none)
theorem DoR.inv {f f' : PV} {most ask p n a b e : Int} (h : DoR f most ask p n a b e f') (hi : Inv f most) : Inv f' most := by
  rcases h with ⟨_, _, _, rfl⟩ | ⟨_, _, _, h1, h2, h3, h4, rfl⟩ | ⟨_, _, _, ⟨_, rfl⟩ | ⟨_, rfl⟩⟩ | ⟨_, _, _, _, h1, w, h2, rfl⟩ | ⟨_, _, _, _, _, c, h1, h2, h3, _, rfl⟩
  · exact hi
  · exact PV.inv_fork hi h4 h1 h2 h3
  · exact PV.inv_turn hi (.inr rfl) _
  · exact PV.inv_turn hi (.inl rfl) _
  · exact PV.inv_exit hi h1 h2
  · exact PV.inv_gone hi h1 h3
section
variable {σ σ' : AS} {X : Ce} {R : List Ck} {k : Value → AS → Prop} {t r : Nat} {most : Int} {l : Tl}
theorem do_c {ask p n : Int} (h : Hs σ X (TH t r most none l R)) (hi : Inv (vw l) most) (hm : most ≤ 1000000)
    (hk : ∀ a b e l' σ', DoR (vw l) most ask p n a b e (vw l') → Hs σ' X (TH t r most none l' R) → k (.tuple #[.int .i64 a, .int .i64 b, .int .i64 e]) σ') :
    kCall Try.prog 8 [pp t, .agg [.int .i64 ask, .int .i64 p, .int .i64 n].toArray] σ k := by
  refine f8 ?_
  have h0 := (h.junk (.cells [.int .i64 ask, .int .i64 p, .int .i64 n]))
  by_cases a0 : ask = 0
  · (try simp (maxSteps := 1000000) (dsimp := false) (disch := (first | omega | (simp only [okR]; done) | (simp only [sizeR] <;> omega) | fail)) only [↓preR, postR, ↓w_join, Nat.reduceEqDiff, Nat.reduceAdd, Nat.reduceSub, Nat.reduceMul, Int.reduceNeg, Nat.reduceLT, Int.reduceToNat, Nat.reduceLeDiff, Nat.sub_zero, F8])
    refine fork_c h0 hm (fun _ _ => ?_) (fun _ _ => ?_) (fun pid q σ1 hp h1 h2 h3 _ h4 => ?_)
    · (try simp (maxSteps := 1000000) (dsimp := false) (disch := (first | omega | (simp only [okR]; done) | (simp only [sizeR] <;> omega) | fail)) only [↓preR, postR, ↓w_join, Nat.reduceEqDiff, Nat.reduceAdd, Nat.reduceSub, Nat.reduceMul, Int.reduceNeg, Nat.reduceLT, Int.reduceToNat, Nat.reduceLeDiff, Nat.sub_zero])
      exact hk _ _ _ l _ (.inl ⟨by decide, rfl, rfl, rfl⟩) h0
    · (try simp (maxSteps := 1000000) (dsimp := false) (disch := (first | omega | (simp only [okR]; done) | (simp only [sizeR] <;> omega) | fail)) only [↓preR, postR, ↓w_join, Nat.reduceEqDiff, Nat.reduceAdd, Nat.reduceSub, Nat.reduceMul, Int.reduceNeg, Nat.reduceLT, Int.reduceToNat, Nat.reduceLeDiff, Nat.sub_zero])
      exact hk _ _ _ l _ (.inl ⟨by decide, rfl, rfl, rfl⟩) h0
    · (try simp (maxSteps := 1000000) (dsimp := false) (disch := (first | omega | (simp only [okR]; done) | (simp only [sizeR] <;> omega) | fail)) only [↓preR, postR, ↓w_join, Nat.reduceEqDiff, Nat.reduceAdd, Nat.reduceSub, Nat.reduceMul, Int.reduceNeg, Nat.reduceLT, Int.reduceToNat, Nat.reduceLeDiff, Nat.sub_zero])
      exact hk _ _ _ _ _ (.inr (.inl ⟨a0, rfl, rfl, h1, h2, h3, hp, vw_app l pid q _ h3⟩)) h4
  by_cases a1 : ask = 1
  · (try simp (maxSteps := 1000000) (dsimp := false) (disch := (first | omega | (simp only [okR]; done) | (simp only [sizeR] <;> omega) | fail)) only [↓preR, postR, ↓w_join, Nat.reduceEqDiff, Nat.reduceAdd, Nat.reduceSub, Nat.reduceMul, Int.reduceNeg, Nat.reduceLT, Int.reduceToNat, Nat.reduceLeDiff, Nat.sub_zero, F8])
    refine block_c h0 fun σ1 h1 => ?_
    (try simp (maxSteps := 1000000) (dsimp := false) (disch := (first | omega | (simp only [okR]; done) | (simp only [sizeR] <;> omega) | fail)) only [↓preR, postR, ↓w_join, Nat.reduceEqDiff, Nat.reduceAdd, Nat.reduceSub, Nat.reduceMul, Int.reduceNeg, Nat.reduceLT, Int.reduceToNat, Nat.reduceLeDiff, Nat.sub_zero])
    rw [liv_vw]
    cases hl : (vw l).liv p
    · have : turnP l p 2 = l := by unfold turnP; rw [liv_vw, hl]; rfl
      rw [this] at h1
      exact hk _ _ _ l _ (.inl ⟨by decide, rfl, rfl, rfl⟩) h1
    · exact hk _ _ _ _ _ (.inr (.inr (.inl ⟨rfl, rfl, rfl, .inl ⟨a1, vw_turn l p 2⟩⟩))) h1
  by_cases a2 : ask = 2
  · (try simp (maxSteps := 1000000) (dsimp := false) (disch := (first | omega | (simp only [okR]; done) | (simp only [sizeR] <;> omega) | fail)) only [↓preR, postR, ↓w_join, Nat.reduceEqDiff, Nat.reduceAdd, Nat.reduceSub, Nat.reduceMul, Int.reduceNeg, Nat.reduceLT, Int.reduceToNat, Nat.reduceLeDiff, Nat.sub_zero, F8])
    refine wake_c h0 fun σ1 h1 => ?_
    (try simp (maxSteps := 1000000) (dsimp := false) (disch := (first | omega | (simp only [okR]; done) | (simp only [sizeR] <;> omega) | fail)) only [↓preR, postR, ↓w_join, Nat.reduceEqDiff, Nat.reduceAdd, Nat.reduceSub, Nat.reduceMul, Int.reduceNeg, Nat.reduceLT, Int.reduceToNat, Nat.reduceLeDiff, Nat.sub_zero])
    rw [liv_vw]
    cases hl : (vw l).liv p
    · have : turnP l p 1 = l := by unfold turnP; rw [liv_vw, hl]; rfl
      rw [this] at h1
      exact hk _ _ _ l _ (.inl ⟨by decide, rfl, rfl, rfl⟩) h1
    · exact hk _ _ _ _ _ (.inr (.inr (.inl ⟨rfl, rfl, rfl, .inr ⟨a2, vw_turn l p 1⟩⟩))) h1
  by_cases a3 : ask = 3
  · (try simp (maxSteps := 1000000) (dsimp := false) (disch := (first | omega | (simp only [okR]; done) | (simp only [sizeR] <;> omega) | fail)) only [↓preR, postR, ↓w_join, Nat.reduceEqDiff, Nat.reduceAdd, Nat.reduceSub, Nat.reduceMul, Int.reduceNeg, Nat.reduceLT, Int.reduceToNat, Nat.reduceLeDiff, Nat.sub_zero, F8])
    have hp0 : (vw l).liv p = true → p ≠ 0 ∧ ((vw l).get p).par ≠ p := by
      intro hl
      obtain ⟨c, hc, _⟩ := PV.liv_iff.1 hl
      have h1 := (hi.keys p c hc).1
      have hg : (vw l).get p = c := by unfold PV.get; rw [hc]; rfl
      rw [hg]
      exact ⟨by omega, PV.no_self hi hc (by omega)⟩
    refine exit_c h0 (fun hl => (hp0 hl).1) (fun hl => (hp0 hl).2) (fun _ => ?_) (fun l' w σ1 hl hw hv h1 => ?_)
    · (try simp (maxSteps := 1000000) (dsimp := false) (disch := (first | omega | (simp only [okR]; done) | (simp only [sizeR] <;> omega) | fail)) only [↓preR, postR, ↓w_join, Nat.reduceEqDiff, Nat.reduceAdd, Nat.reduceSub, Nat.reduceMul, Int.reduceNeg, Nat.reduceLT, Int.reduceToNat, Nat.reduceLeDiff, Nat.sub_zero])
      exact hk _ _ _ l _ (.inl ⟨by decide, rfl, rfl, rfl⟩) h0
    · (try simp (maxSteps := 1000000) (dsimp := false) (disch := (first | omega | (simp only [okR]; done) | (simp only [sizeR] <;> omega) | fail)) only [↓preR, postR, ↓w_join, Nat.reduceEqDiff, Nat.reduceAdd, Nat.reduceSub, Nat.reduceMul, Int.reduceNeg, Nat.reduceLT, Int.reduceToNat, Nat.reduceLeDiff, Nat.sub_zero])
      exact hk _ _ _ _ _ (.inr (.inr (.inr (.inl ⟨a3, rfl, rfl, rfl, hl, w, hw, hv⟩)))) h1
  (try simp (maxSteps := 1000000) (dsimp := false) (disch := (first | omega | (simp only [okR]; done) | (simp only [sizeR] <;> omega) | fail)) only [↓preR, postR, ↓w_join, Nat.reduceEqDiff, Nat.reduceAdd, Nat.reduceSub, Nat.reduceMul, Int.reduceNeg, Nat.reduceLT, Int.reduceToNat, Nat.reduceLeDiff, Nat.sub_zero, F8])
  refine wait_c h0 (fun i hx => ?_) (fun _ => ?_) (fun _ _ => ?_) (fun σ1 _ _ _ h1 => ?_) (fun σ1 _ _ _ _ h1 => ?_) (fun i c σ1 hl hc0 hc hkid hz _ h1 => ?_)
  · cases hf : vw l i with
    | none => exact absurd hf hx
    | some c => exact (hi.keys i c hf).1
  · (try simp (maxSteps := 1000000) (dsimp := false) (disch := (first | omega | (simp only [okR]; done) | (simp only [sizeR] <;> omega) | fail)) only [↓preR, postR, ↓w_join, Nat.reduceEqDiff, Nat.reduceAdd, Nat.reduceSub, Nat.reduceMul, Int.reduceNeg, Nat.reduceLT, Int.reduceToNat, Nat.reduceLeDiff, Nat.sub_zero])
    exact hk _ _ _ l _ (.inl ⟨by decide, rfl, rfl, rfl⟩) h0
  · (try simp (maxSteps := 1000000) (dsimp := false) (disch := (first | omega | (simp only [okR]; done) | (simp only [sizeR] <;> omega) | fail)) only [↓preR, postR, ↓w_join, Nat.reduceEqDiff, Nat.reduceAdd, Nat.reduceSub, Nat.reduceMul, Int.reduceNeg, Nat.reduceLT, Int.reduceToNat, Nat.reduceLeDiff, Nat.sub_zero])
    exact hk _ _ _ l _ (.inl ⟨by decide, rfl, rfl, rfl⟩) h0
  · (try simp (maxSteps := 1000000) (dsimp := false) (disch := (first | omega | (simp only [okR]; done) | (simp only [sizeR] <;> omega) | fail)) only [↓preR, postR, ↓w_join, Nat.reduceEqDiff, Nat.reduceAdd, Nat.reduceSub, Nat.reduceMul, Int.reduceNeg, Nat.reduceLT, Int.reduceToNat, Nat.reduceLeDiff, Nat.sub_zero])
    exact hk _ _ _ l _ (.inl ⟨by decide, rfl, rfl, rfl⟩) h1
  · (try simp (maxSteps := 1000000) (dsimp := false) (disch := (first | omega | (simp only [okR]; done) | (simp only [sizeR] <;> omega) | fail)) only [↓preR, postR, ↓w_join, Nat.reduceEqDiff, Nat.reduceAdd, Nat.reduceSub, Nat.reduceMul, Int.reduceNeg, Nat.reduceLT, Int.reduceToNat, Nat.reduceLeDiff, Nat.sub_zero])
    exact hk _ _ _ l _ (.inl ⟨by decide, rfl, rfl, rfl⟩) h1
  · (try simp (maxSteps := 1000000) (dsimp := false) (disch := (first | omega | (simp only [okR]; done) | (simp only [sizeR] <;> omega) | fail)) only [↓preR, postR, ↓w_join, Nat.reduceEqDiff, Nat.reduceAdd, Nat.reduceSub, Nat.reduceMul, Int.reduceNeg, Nat.reduceLT, Int.reduceToNat, Nat.reduceLeDiff, Nat.sub_zero])
    exact hk _ _ _ _ _ (.inr (.inr (.inr (.inr ⟨a0, a1, a2, a3, rfl, c, hc, hkid, hz, rfl, vw_rem l i⟩)))) h1
end
end Go.Proofs.Ytkponloccimdlaa
