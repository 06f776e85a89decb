/- That the translation of an operation is sound, all together. Conditions: none. -/
import Derived.Test.YtmgdkoidgoihfaaGreatDoorE6
namespace Go.Proofs.YtmgdkoidgoihfaaGreatDoor.E
open Go.RowKit

section
variable {P : Program} {N : Nat} {ρ : Env} {w : World} {k : Value → World → Prop}

theorem lenS_ok {t ty : TypeId} {a : Value} {v : Value} (hu : P.underlying t = some .string) (h : lenV true a = some v) : (Builtin.len_ #[t] ty #[a]).run P w = .ok v w := by
  cases a <;> simp [lenV] at h
  subst h
  simp [Builtin.len_, run_underlying hu, goInt]
theorem lenL_ok {t e ty : TypeId} {a : Value} {v : Value} (hu : P.underlying t = some (.slice e)) (h : lenV false a = some v) : (Builtin.len_ #[t] ty #[a]).run P w = .ok v w := by
  cases a <;> simp [lenV] at h
  subst h
  simp [Builtin.len_, run_underlying hu, goInt]

theorem builtin_ok {b : Builtin} {args : List Operand} {ts : List TypeId} {vs : List Value} {c : Call} {ty : TypeId} {s : Sem Value} (hcl : c.callee = .builtin b) (ha : c.args = args.toArray) (ht : c.argTypes = ts.toArray) (hv : args.map (act N ρ).eval = vs)
    (hb : ∀ consts, builtin b ts.toArray ty consts vs.toArray = (do pure (.value (← s)))) (h : ∃ v w', s.run P w = .ok v w' ∧ k v w') :
    Goes P w k ((do let d ← resolve (act N ρ).eval c ty; invoke d.target d.args : Sem Next).run P w) := by
  have e : (c.args.map (act N ρ).eval) = vs.toArray := by
    rw [← Array.toList_inj]; simp [ha, hv]
  have hg := goes_value h
  simp only [Sem.run_bind, Sem.run_pure] at hg
  simp only [resolve, hcl, Sem.run_bind, Sem.run_pure, Result.andThen_ok, invoke, e, ht, hb]
  exact hg

theorem toList_two {α : Type} {a : Array α} {x y : α} (h : a.toList = [x, y]) : a = [x, y].toArray := by rw [← h]
theorem toList_one {α : Type} {a : Array α} {x : α} (h : a.toList = [x]) : a = [x].toArray := by rw [← h]

theorem trCall_ok {c : Call} {ty : TypeId} (h : vcI P (trCall P N c) ρ w k) : Goes P w k ((do let d ← resolve (act N ρ).eval c ty; invoke d.target d.args : Sem Next).run P w) := by
  unfold trCall at h
  split at h
  · rename_i f hcl
    obtain ⟨fa, hfa, h⟩ := A1_ok h
    obtain ⟨as, has, h⟩ := elim_ok h
    split at h
    · rename_i g
      split at h
      · rename_i hok
        exact call_ok hcl hok has h
      · exact ext_ok hcl has h
    · exact callv_ok hcl hfa has h
  · rename_i hcl
    split at h
    · rename_i x t hx ht
      obtain ⟨a, ha, h⟩ := A1_ok h
      split at h
      · rename_i hu
        obtain ⟨v, hv, hk⟩ := seqO_ex h
        exact builtin_ok (vs := [a.ev ρ]) hcl (toList_one hx) (toList_one ht) (by simp [trA_ev ha]) (fun _ => rfl) ⟨v, w, lenS_ok hu hv, hk⟩
      · rename_i hu
        obtain ⟨v, hv, hk⟩ := seqO_ex h
        exact builtin_ok (vs := [a.ev ρ]) hcl (toList_one hx) (toList_one ht) (by simp [trA_ev ha]) (fun _ => rfl) ⟨v, w, lenL_ok hu hv, hk⟩
      · exact h.elim
    · exact h.elim
  · rename_i hcl
    split at h
    · rename_i x y hx
      obtain ⟨a, ha, h⟩ := A1_ok h
      obtain ⟨b, hb, h⟩ := A1_ok h
      obtain ⟨v, hv, hk⟩ := seqO_ex h
      refine builtin_ok (vs := [a.ev ρ, b.ev ρ]) (ts := c.argTypes.toList) hcl (toList_two hx) (by simp) (by simp [trA_ev ha, trA_ev hb]) (fun _ => rfl) ⟨v, w, ?_, hk⟩
      unfold min2V at hv
      split at hv
      · rename_i h1 h2
        injection hv with hv
        subst hv
        simp [Builtin.min_, Builtin.min2, h1, h2]
      · cases hv
    · exact h.elim
  · rename_i hcl
    split at h
    · rename_i x y hx
      obtain ⟨a, ha, h⟩ := A1_ok h
      obtain ⟨b, hb, h⟩ := A1_ok h
      obtain ⟨v, hv, hk⟩ := seqO_ex h
      refine builtin_ok (vs := [a.ev ρ, b.ev ρ]) (ts := c.argTypes.toList) hcl (toList_two hx) (by simp) (by simp [trA_ev ha, trA_ev hb]) (fun _ => rfl) ⟨v, w, ?_, hk⟩
      unfold max2V at hv
      split at hv
      · rename_i h1 h2
        injection hv with hv
        subst hv
        simp [Builtin.max_, Builtin.max2, h1, h2]
      · cases hv
    · exact h.elim
  · rename_i hcl
    split at h
    · rename_i x y t u hx ht
      obtain ⟨a, ha, h⟩ := A1_ok h
      obtain ⟨b, hb, h⟩ := A1_ok h
      exact builtin_ok (vs := [a.ev ρ, b.ev ρ]) hcl (toList_two hx) (toList_two ht) (by simp [trA_ev ha, trA_ev hb]) (fun _ => rfl) h
    · exact h.elim
  · rename_i hcl
    split at h
    · rename_i x y t u hx ht
      obtain ⟨a, ha, h⟩ := A1_ok h
      obtain ⟨b, hb, h⟩ := A1_ok h
      exact builtin_ok (vs := [a.ev ρ, b.ev ρ]) hcl (toList_two hx) (toList_two ht) (by simp [trA_ev ha, trA_ev hb]) (fun _ => rfl) h
    · exact h.elim
  · exact h.elim

theorem goes_mup {t : TypeId} {a b c : Value} (h : genP P (.mup t) [a, b, c] w k) : Goes P w k ((do Instr.mapUpdate t a b c; pure .skip : Sem Next).run P w) := by
  obtain ⟨v, w', hr, hk⟩ := h
  simp only [lkSem, Sem.run_bind] at hr
  refine goes_unit ?_
  cases he : (Instr.mapUpdate t a b c).run P w with
  | halt x y => rw [he] at hr; cases hr
  | ok u w'' =>
    rw [he] at hr
    simp only [Result.andThen_ok, Sem.run_pure, Result.ok.injEq] at hr
    obtain ⟨rfl, rfl⟩ := hr
    exact ⟨w'', rfl, hk⟩
theorem goes_est {t : TypeId} {a b c : Value} (h : genP P (.est t) [a, b, c] w k) : Goes P w k ((do Instr.entryStore t a b c; pure .skip : Sem Next).run P w) := by
  obtain ⟨v, w', hr, hk⟩ := h
  simp only [lkSem, Sem.run_bind] at hr
  refine goes_unit ?_
  cases he : (Instr.entryStore t a b c).run P w with
  | halt x y => rw [he] at hr; cases hr
  | ok u w'' =>
    rw [he] at hr
    simp only [Result.andThen_ok, Sem.run_pure, Result.ok.injEq] at hr
    obtain ⟨rfl, rfl⟩ := hr
    exact ⟨w'', rfl, hk⟩
theorem trBlt_ok {c : Call} {ty : TypeId} (h : vcI P (trBlt N c ty) ρ w k) : Goes P w k ((do let d ← resolve (act N ρ).eval c ty; invoke d.target d.args : Sem Next).run P w) := by
  unfold trBlt at h
  split at h
  · rename_i b hcl
    obtain ⟨as, has, h⟩ := elim_ok h
    have hv := allA_ev (ρ := ρ) has
    split at h <;> first | exact h.elim | exact builtin_ok (ts := c.argTypes.toList) hcl (by simp) (by simp) hv (fun _ => rfl) h
  · exact h.elim

theorem trI_ok {o : Oper} (h : vcI P (trI P N o) ρ w k) : Goes P w k ((execOp (act N ρ).eval o).run P w) := by
  unfold trI at h
  split at h
  case h_1 x hop => 
    obtain ⟨a, ha, h⟩ := A1_ok h
    simp only [execOp, hop, Sem.run_pure, trA_ev ha]; exact h
  case h_2 x hop => 
    obtain ⟨a, ha, h⟩ := A1_ok h
    simp only [execOp, hop, Sem.run_pure, trA_ev ha]; exact h
  case h_3 c a b hop =>
    obtain ⟨c', hc, h⟩ := A1_ok h
    obtain ⟨a', ha, h⟩ := A1_ok h
    obtain ⟨b', hb, h⟩ := A1_ok h
    obtain ⟨t, ht, hk⟩ := seqO_ex h
    unfold asB at ht
    split at ht <;> first | (cases ht; done) | skip
    rename_i hcv
    injection ht with ht; subst ht
    simp only [execOp, hop, trA_ev hc, trA_ev ha, trA_ev hb, hcv, asBool, Sem.run_bind, Sem.run_pure, Result.andThen_ok]
    exact hk
  case h_4 t hop =>
    obtain ⟨z, hz, h⟩ := elim_ok h
    simp only [execOp, hop]
    exact goes_value ⟨_, _, alloc_ok hz, h⟩
  case h_5 t x hop =>
    obtain ⟨a, ha, h⟩ := A1_ok h
    simp only [execOp, hop, trA_ev ha]
    exact goes_value ⟨_, _, box_ok, h⟩
  case h_6 t x hop =>
    obtain ⟨a, ha, h⟩ := A1_ok h
    simp only [execOp, hop, trA_ev ha]
    exact goes_value (load_ok h)
  case h_7 t x y hop =>
    obtain ⟨a, ha, h⟩ := A1_ok h
    obtain ⟨b, hb, h⟩ := A1_ok h
    obtain ⟨n, hn, h⟩ := elim_ok h
    simp only [execOp, hop, trA_ev ha, trA_ev hb]
    exact goes_unit (store_ok hn h)
  case h_8 x hop =>
    obtain ⟨a, ha, h⟩ := A1_ok h
    obtain ⟨v, hv, hk⟩ := seqO_ex h
    simp only [execOp, hop, trA_ev ha]
    unfold nckV at hv
    split at hv <;> first | (cases hv; done) | skip
    all_goals
      rename_i heq
      injection hv with hv
      subst hv
      rw [heq]
      exact hk
  case h_9 op t x y _ hop =>
    obtain ⟨a, ha, h⟩ := A1_ok h
    obtain ⟨b, hb, h⟩ := A1_ok h
    split at h
    · simp only [execOp, hop, trA_ev ha, trA_ev hb]
      exact goes_value h
    · obtain ⟨v, hv, hk⟩ := bin_ok h
      simp only [execOp, hop, trA_ev ha, trA_ev hb]
      exact goes_value ⟨v, w, hv, hk⟩
  case h_10 op _ x hop =>
    obtain ⟨a, ha, h⟩ := A1_ok h
    obtain ⟨v, hv, hk⟩ := seqO_ex h
    simp only [execOp, hop, trA_ev ha]
    exact goes_value ⟨v, w, un_run hv, hk⟩
  case h_11 s x f hop =>
    obtain ⟨a, ha, h⟩ := A1_ok h
    obtain ⟨fd, hfd, h⟩ := elim_ok h
    split at h
    · rename_i n hn
      obtain ⟨v, hv, hk⟩ := seqO_ex h
      simp only [execOp, hop, trA_ev ha]
      exact goes_value ⟨v, w, fld_ok hfd hn hv, hk⟩
    · exact h.elim
  case h_12 s x f hop =>
    obtain ⟨a, ha, h⟩ := A1_ok h
    obtain ⟨fd, hfd, h⟩ := elim_ok h
    obtain ⟨fs, hs, hf⟩ := fOf_some hfd
    simp only [execOp, hop, trA_ev ha]
    split at h
    · rename_i d hd
      split at h
      · rename_i hag
        split at h
        · rename_i n hn
          obtain ⟨v, hv, hk⟩ := seqO_ex h
          unfold getNV at hv
          split at hv <;> first | (cases hv; done) | skip
          rename_i cs hcs
          injection hv with hv; subst hv
          refine goes_value ⟨_, w, ?_, hk⟩
          simp only [Instr.field, Sem.run_bind, run_underlying hs, Result.andThen_ok, hf, hcs, asAgg, Sem.run_pure, partN_run hd hag hn]
        · exact h.elim
      · rename_i hag
        obtain ⟨v, hv, hk⟩ := seqO_ex h
        unfold get1V at hv
        split at hv <;> first | (cases hv; done) | skip
        rename_i cs hcs
        refine goes_value ⟨_, w, ?_, hk⟩
        simp only [Instr.field, Sem.run_bind, run_underlying hs, Result.andThen_ok, hf, hcs, asAgg, Sem.run_pure, part1_run hd (by simpa using hag) hv]
    · exact h.elim
  case h_13 t x i hop =>
    obtain ⟨a, ha, h⟩ := A1_ok h
    obtain ⟨b, hb, h⟩ := A1_ok h
    simp only [execOp, hop, trA_ev ha, trA_ev hb]
    split at h
    · rename_i e he
      split at h
      · rename_i n hn
        obtain ⟨v, hv, hk⟩ := seqO_ex h
        exact goes_value ⟨v, w, idx_ok he hn hv, hk⟩
      · exact h.elim
    · rename_i len e he
      split at h
      · rename_i n hn
        obtain ⟨v, hv, hk⟩ := seqO_ex h
        exact goes_value ⟨v, w, idxA_ok he hn hv, hk⟩
      · exact h.elim
    · exact h.elim
  case h_14 t x i hop =>
    obtain ⟨a, ha, h⟩ := A1_ok h
    obtain ⟨b, hb, h⟩ := A1_ok h
    simp only [execOp, hop, trA_ev ha, trA_ev hb]
    split at h
    · rename_i he
      obtain ⟨v, hv, hk⟩ := seqO_ex h
      exact goes_value ⟨v, w, ixS_ok he hv, hk⟩
    · exact h.elim
  case h_15 t x lo hi mx hop =>
    obtain ⟨a, ha, h⟩ := A1_ok h
    obtain ⟨l, hl, h⟩ := elim_ok h
    obtain ⟨u, hu, h⟩ := elim_ok h
    simp only [execOp, hop, trA_ev ha, optA_ev hl, optA_ev hu]
    split at h
    · exact goes_value (slice_ok h)
    · exact h.elim
  case h_16 s d x hop =>
    obtain ⟨a, ha, h⟩ := A1_ok h
    simp only [execOp, hop, trA_ev ha]
    rcases orGen_ok h with h | h
    · exact goes_value (conv_ok h)
    · exact goes_value h
  case h_17 fn first cap hop =>
    simp only [execOp, hop]
    split at h
    · obtain ⟨a, ha, h⟩ := elim_ok h
      obtain ⟨b, hb, h⟩ := elim_ok h
      have e1 : first.map (act N ρ).eval = (argsV ρ a).toArray := by rw [← Array.toList_inj]; simp [← allA_ev ha]
      have e2 : cap.map (act N ρ).eval = (argsV ρ b).toArray := by rw [← Array.toList_inj]; simp [← allA_ev hb]
      rw [e1, e2]
      exact goes_value ⟨_, w, rfl, h⟩
    · exact h.elim
  case h_18 t hop =>
    simp only [execOp, hop]
    exact goes_value ⟨_, _, rfl, h⟩
  case h_19 t l c hop =>
    obtain ⟨a, ha, h⟩ := A1_ok h
    obtain ⟨b, hb, h⟩ := A1_ok h
    simp only [execOp, hop, trA_ev ha, trA_ev hb]
    split at h
    · rename_i e he
      split at h
      · rename_i i hi
        split at h
        · rename_i z hz
          exact goes_value (mks_ok he hi hz h)
        · exact h.elim
      · exact h.elim
    · exact h.elim
  case h_20 t ps hop =>
    simp only [execOp, hop]
    split at h
    · rename_i fs hfs
      obtain ⟨z, hz, h⟩ := elim_ok h
      obtain ⟨l, hl, h⟩ := elim_ok h
      split at h
      · rename_i hall
        exact goes_value (build_ok hfs hz hl hall h)
      · exact h.elim
    · rename_i len e he
      obtain ⟨z, hz, h⟩ := elim_ok h
      obtain ⟨n, hn, h⟩ := elim_ok h
      obtain ⟨l, hl, h⟩ := elim_ok h
      exact goes_value (buildA_ok he hz hn hl h)
    · exact h.elim
  case h_21 t len ps hop =>
    simp only [execOp, hop]
    split at h
    · rename_i e he
      obtain ⟨z, hz, h⟩ := elim_ok h
      obtain ⟨n, hn, h⟩ := elim_ok h
      obtain ⟨l, hl, h⟩ := elim_ok h
      split at h
      · rename_i hc
        exact goes_value (bsl_ok he hz hn hl hc h)
      · exact h.elim
    · exact h.elim
  case h_22 x i hop =>
    obtain ⟨a, ha, h⟩ := A1_ok h
    obtain ⟨v, hv, hk⟩ := seqO_ex h
    simp only [execOp, hop, trA_ev ha]
    refine goes_value ⟨v, w, ?_, hk⟩
    unfold extV at hv
    split at hv <;> first | (cases hv; done) | skip
    rename_i vs hvs
    have hv' : vs[i]? = some v := by simpa using hv
    simp [Instr.extract, hvs, hv']
  case h_23 c hop =>
    simp only [execOp, hop]
    rcases orGen_ok h with h | h
    · exact trCall_ok h
    · exact trBlt_ok h
  case h_24 t x i ok hop =>
    obtain ⟨a, ha, h⟩ := A1_ok h
    obtain ⟨b, hb, h⟩ := A1_ok h
    simp only [execOp, hop, trA_ev ha, trA_ev hb]
    exact goes_value h
  case h_25 t m kk x hop =>
    obtain ⟨a, ha, h⟩ := A1_ok h
    obtain ⟨b, hb, h⟩ := A1_ok h
    obtain ⟨c, hc, h⟩ := A1_ok h
    simp only [execOp, hop, trA_ev ha, trA_ev hb, trA_ev hc]
    exact goes_mup h
  case h_26 t m kk x hop =>
    obtain ⟨a, ha, h⟩ := A1_ok h
    obtain ⟨b, hb, h⟩ := A1_ok h
    obtain ⟨c, hc, h⟩ := A1_ok h
    simp only [execOp, hop, trA_ev ha, trA_ev hb, trA_ev hc]
    exact goes_mup h
  case h_27 t r hop =>
    obtain ⟨a, ha, h⟩ := A1_ok h
    simp only [execOp, hop, Option.map_some, trA_ev ha]
    exact goes_value h
  case h_28 t x hop =>
    obtain ⟨a, ha, h⟩ := A1_ok h
    simp only [execOp, hop, trA_ev ha]
    exact goes_value h
  case h_29 x s hop =>
    obtain ⟨a, ha, h⟩ := A1_ok h
    simp only [execOp, hop, trA_ev ha]
    exact goes_value h
  case h_30 x hop =>
    obtain ⟨a, ha, h⟩ := A1_ok h
    simp only [execOp, hop, trA_ev ha]
    exact goes_value h
  case h_31 t x hop =>
    obtain ⟨a, ha, h⟩ := A1_ok h
    simp only [execOp, hop, trA_ev ha]
    exact goes_value h
  case h_32 x t u ok hop =>
    obtain ⟨a, ha, h⟩ := A1_ok h
    simp only [execOp, hop, trA_ev ha]
    exact goes_value h
  case h_33 t m kk hop =>
    obtain ⟨a, ha, h⟩ := A1_ok h
    obtain ⟨b, hb, h⟩ := A1_ok h
    simp only [execOp, hop, trA_ev ha, trA_ev hb]
    exact goes_value h
  case h_34 t m kk x hop =>
    obtain ⟨a, ha, h⟩ := A1_ok h
    obtain ⟨b, hb, h⟩ := A1_ok h
    obtain ⟨c, hc, h⟩ := A1_ok h
    simp only [execOp, hop, trA_ev ha, trA_ev hb, trA_ev hc]
    exact goes_est h
  case h_35 => exact h.elim
end
end Go.Proofs.YtmgdkoidgoihfaaGreatDoor.E
