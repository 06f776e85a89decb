/- That the translation of an operation is sound, part 4. Conditions: none. -/
import Derived.Test.YtmgdkoidgoihfaaGreatDoorE5
namespace Go.Proofs.YtmgdkoidgoihfaaGreatDoor.E
open Go.RowKit

section
variable {P : Program} {N : Nat} {ρ : Env} {w : World} {k : Value → World → Prop}

theorem mapM_places (fs : Array Field) (hall : fs.all (fun f => (szOf P f.type).isSome) = true) :
    (fs.mapM (m := Sem) fun f => do pure (f.offset, ← sizeOf f.type)).run P w = .ok (fs.map fun f => (f.offset, (szOf P f.type).getD 0)) w := by
  obtain ⟨l⟩ := fs
  have key : ∀ (l : List Field), (l.all (fun f => (szOf P f.type).isSome) = true) → (l.mapM (m := Sem) fun f => do pure (f.offset, ← sizeOf f.type)).run P w = .ok (l.map fun f => (f.offset, (szOf P f.type).getD 0)) w := by
    intro l
    induction l with
    | nil => intro _; simp
    | cons f r ih =>
      intro h
      simp only [List.all_cons, Bool.and_eq_true] at h
      obtain ⟨n, hn⟩ := Option.isSome_iff_exists.1 h.1
      have h2 := ih h.2
      simp only [List.mapM_cons, Sem.run_bind, szOf_run hn, Result.andThen_ok, Sem.run_pure]
      rw [h2]
      simp [hn]
  have h := key l (by simpa using hall)
  simp only [List.mapM_toArray, Sem.run_map, h, Result.andThen_ok]
  simp

theorem build_ok {t : TypeId} {fs : Array Field} {z : List Value} {ps : Array (Nat × Operand)} {l : List (Nat × Nat × Arg)} (ht : P.underlying t = some (.struct fs)) (hz : zOf P t = some z)
    (hl : plA P N (fun (i : Nat) => fs[i]?.bind fun (f : Field) => (szOf P f.type).map fun n => (f.offset, n)) ps.toList = some l) (hall : fs.all (fun f => (szOf P f.type).isSome) = true) (h : vcI P (.build z l) ρ w k) :
    ∃ v w', (Instr.build t (ps.map fun (i, x) => (i, (act N ρ).eval x))).run P w = .ok v w' ∧ k v w' := by
  obtain ⟨r, hr, hk⟩ := seqO_ex h
  refine ⟨_, w, ?_, hk⟩
  obtain ⟨v, hv, hrun⟩ := zOf_run hz
  have hfill := fill_ok (P := P) (N := N) (ρ := ρ) (fun (i : Nat) => fs[i]?.bind fun (f : Field) => (szOf P f.type).map fun n => (f.offset, n)) ps.toList l v.cells r hl (by rw [hv]; exact hr)
  have hpl : (fun (i : Nat) => (fs.map fun (f : Field) => (f.offset, (szOf P f.type).getD 0))[i]?) = (fun (i : Nat) => fs[i]?.bind fun (f : Field) => (szOf P f.type).map fun n => (f.offset, n)) := by
    funext i
    rw [Array.getElem?_map]
    cases hi : fs[i]? with
    | none => rfl
    | some f =>
      have := Array.all_eq_true.1 hall i (Array.getElem?_eq_some_iff.1 hi).1
      rw [(Array.getElem?_eq_some_iff.1 hi).2] at this
      obtain ⟨n, hn⟩ := Option.isSome_iff_exists.1 this
      simp [hn]
  have hps : (ps.map fun (x : Nat × Operand) => (x.1, (act N ρ).eval x.2)).toList = ps.toList.map fun p => (p.1, (act N ρ).eval p.2) := by simp
  simp only [Instr.build, Sem.run_bind, hrun w, Result.andThen_ok, run_underlying ht]
  have hm := mapM_places (P := P) (w := w) fs hall
  rw [hm]
  simp only [Result.andThen_ok]
  have hfill' : Instr.fill (fun (i : Nat) => (fs.map fun (f : Field) => (f.offset, (szOf P f.type).getD 0))[i]?) v.cells (ps.map fun (x : Nat × Operand) => (x.1, (act N ρ).eval x.2)).toList = some r.toArray := by
    rw [hpl, hps]; exact hfill
  rw [hfill']
  rfl

theorem buildA_ok {t e : TypeId} {len n : Nat} {z : List Value} {ps : Array (Nat × Operand)} {l : List (Nat × Nat × Arg)} (ht : P.underlying t = some (.array len e)) (hz : zOf P t = some z) (hn : szOf P e = some n)
    (hl : plA P N (fun i => some (i * n, n)) ps.toList = some l) (h : vcI P (.build z l) ρ w k) :
    ∃ v w', (Instr.build t (ps.map fun (i, x) => (i, (act N ρ).eval x))).run P w = .ok v w' ∧ k v w' := by
  obtain ⟨r, hr, hk⟩ := seqO_ex h
  refine ⟨_, w, ?_, hk⟩
  obtain ⟨v, hv, hrun⟩ := zOf_run hz
  have hfill := fill_ok (P := P) (N := N) (ρ := ρ) (fun i => some (i * n, n)) ps.toList l v.cells r hl (by rw [hv]; exact hr)
  have hps : (ps.map fun (x : Nat × Operand) => (x.1, (act N ρ).eval x.2)).toList = ps.toList.map fun p => (p.1, (act N ρ).eval p.2) := by simp
  simp only [Instr.build, Sem.run_bind, hrun w, Result.andThen_ok, run_underlying ht, szOf_run hn]
  rw [← hps] at hfill
  rw [hfill]
  rfl

theorem rep_flat (z : List Value) (n len : Nat) (hn : z.length = n) (hp : 0 < n) : ((Array.range (len * n)).map fun i => z.toArray[i % z.toArray.size]!).toList = (List.replicate len z).flatten := by
  apply List.ext_getElem?
  intro i
  have hl : ((List.replicate len z).flatten).length = len * n := by simp [hn]
  by_cases hi : i < len * n
  · rw [List.getElem?_eq_getElem (by simpa using hi), List.getElem?_eq_getElem (by rw [hl]; exact hi)]
    congr 1
    have hm : i % n < n := Nat.mod_lt _ hp
    have h2 : (List.replicate len z).flatten[i]'(by rw [hl]; exact hi) = z[i % n]'(by omega) := by
      have : ∀ (len i : Nat) (h : i < ((List.replicate len z).flatten).length), (List.replicate len z).flatten[i]'h = z[i % n]'(by have := Nat.mod_lt i hp; omega) := by
        intro len
        induction len with
        | zero => intro i h; simp at h
        | succ m ih =>
          intro i h
          by_cases hin : i < n
          · have h1 : i % n = i := Nat.mod_eq_of_lt hin
            have h3 : (z ++ (List.replicate m z).flatten)[i]'(by simpa [List.replicate_succ] using h) = z[i]'(by omega) := List.getElem_append_left (by omega)
            simp only [List.replicate_succ, List.flatten_cons, h1]
            exact h3
          · have h1 : i % n = (i - n) % n := Nat.mod_eq_sub_mod (by omega)
            have h3 : (z ++ (List.replicate m z).flatten)[i]'(by simpa [List.replicate_succ] using h) = (List.replicate m z).flatten[i - z.length]'(by simp [List.replicate_succ] at h; simp; omega) := List.getElem_append_right (by omega)
            simp only [List.replicate_succ, List.flatten_cons, h1]
            rw [h3, ih]
            simp only [hn]
      exact this len i _
    rw [h2]
    have hz : i % z.length < z.length := by rw [hn]; exact hm
    simp [hn, hm]
  · rw [List.getElem?_eq_none (by simpa using Nat.le_of_not_lt hi), List.getElem?_eq_none (by rw [hl]; omega)]
theorem mks_ok {t e : TypeId} {i : TypeInfo} {z : Value} {l c : Arg} (ht : P.underlying t = some (.slice e)) (hi : P.info? e = some i) (hz : i.zero = some z)
    (h : vcI P (.mks e i.size i.bytes z.cells.toList l c) ρ w k) : ∃ v w', (Instr.makeSlice t (l.ev ρ) (c.ev ρ)).run P w = .ok v w' ∧ k v w' := by
  replace h : mksP e i.size i.bytes z.cells.toList (l.ev ρ) (c.ev ρ) w k := h
  unfold mksP at h
  split at h
  · rename_i ka a kb b hl hc
    obtain ⟨h1, h2, h3, h4, h5, h6, hk⟩ := h
    refine ⟨_, _, ?_, hk⟩
    have hr := run_make (P := P) w t e i z ht hi hz ka kb a b h1 h2 h4 h3
    rw [hl, hc, hr]
    have e := rep_flat z.cells.toList i.size b.toNat h5 h6
    have e2 : madeCells z.cells (b.toNat * i.size) = (List.replicate b.toNat z.cells.toList).flatten.toArray := by
      rw [← Array.toList_inj, ← e]
      simp [madeCells]
    rw [e2]
    rfl
  · exact h.elim


theorem bsl_ok {t e : TypeId} {len n : Nat} {z : List Value} {ps : Array (Nat × Operand)} {l : List (Nat × Nat × Arg)} (ht : P.underlying t = some (.slice e)) (hz : zOf P e = some z) (hn : szOf P e = some n)
    (hl : plA P N (fun i => some (i * n, n)) ps.toList = some l) (hc : z.length = n ∧ 0 < n ∧ len * n ≤ 16777216) (h : vcI P (.bsl e len ((List.replicate len z).flatten) l) ρ w k) :
    ∃ v w', (Instr.buildSlice t len (ps.map fun (i, x) => (i, (act N ρ).eval x))).run P w = .ok v w' ∧ k v w' := by
  obtain ⟨r, hr, hk⟩ := seqO_ex h
  refine ⟨_, _, ?_, hk⟩
  obtain ⟨v, hv, hrun⟩ := zOf_run hz
  obtain ⟨c1, c2, c3⟩ := hc
  have hps : (ps.map fun (x : Nat × Operand) => (x.1, (act N ρ).eval x.2)).toList = ps.toList.map fun p => (p.1, (act N ρ).eval p.2) := by simp
  have hfill := fun (zz : Array Value) (hzz : zz.toList = (List.replicate len z).flatten) => fill_ok (P := P) (N := N) (ρ := ρ) (fun i => some (i * n, n)) ps.toList l zz r hl (by rw [hzz]; exact hr)
  have hbig : ¬ (len * n > 2 ^ 24) := by omega
  simp only [Instr.buildSlice, Sem.run_bind, run_underlying ht, Result.andThen_ok, szOf_run hn, if_neg hbig]
  by_cases h0 : len * n = 0
  · have hz0 : (Array.map (fun x => (#[] : Array Value)[x % (#[] : Array Value).size]!) (Array.range (len * n))).toList = (List.replicate len z).flatten := by
      have : len = 0 := by
        rcases Nat.mul_eq_zero.1 h0 with h | h
        · exact h
        · omega
      subst this
      simp
    have hf := hfill _ hz0
    rw [← hps] at hf
    simp only [h0] at hf
    simp only [h0, if_true, Sem.run_bind, Sem.run_pure, Result.andThen_ok]
    rw [hf]
    simp only [newRow, newObj]
    rfl
  · have hz0 : (Array.map (fun x => v.cells[x % v.cells.size]!) (Array.range (len * n))).toList = (List.replicate len z).flatten := by
      rw [← rep_flat z n len c1 c2, ← hv]
    have hf := hfill _ hz0
    rw [← hps] at hf
    simp only [if_neg h0, Sem.run_bind, hrun w, Result.andThen_ok, Sem.run_pure]
    rw [hf]
    simp only [newRow, newObj]
    rfl

theorem okFn_run {f : Nat} {args : Array Value} (h : okFn P f = true) : (callFunc f args).run P w = .ok (.enter f args) w := by
  unfold okFn at h
  split at h
  · rename_i fn hfn
    simp only [Bool.and_eq_true, Bool.not_eq_true'] at h
    obtain ⟨h1, h2⟩ := h
    have h3 : fn.body ≠ none := by
      intro hb; simp [hb] at h1
    have h4 : fn.name ≠ "runtime.NumGoroutine" := by simpa using h2
    simp [callFunc, program, Sem.run, hfn, h4, h3]
  · cases h
theorem call_ok {f : Nat} {args : List Arg} {c : Call} {ty : TypeId} (hcl : c.callee = .value (.func f)) (hok : okFn P f = true) (ha : allA N c.args.toList = some args) (h : callP P f (argsV ρ args) w k) :
    Goes P w k ((do let d ← resolve (act N ρ).eval c ty; invoke d.target d.args : Sem Next).run P w) := by
  have e : (c.args.map (act N ρ).eval) = (argsV ρ args).toArray := by
    rw [← Array.toList_inj]; simp [← allA_ev ha]
  simp only [resolve, hcl, Act.eval, Deferred.ofValue, Sem.run_bind, Sem.run_pure, Result.andThen_ok, invoke, e]
  simp only [Array.append_empty, Array.empty_append, okFn_run hok]
  exact ⟨rfl, h⟩
theorem ext_ok {f : Nat} {args : List Arg} {c : Call} {ty : TypeId} (hcl : c.callee = .value (.func f)) (ha : allA N c.args.toList = some args) (h : genP P (.ext f) (argsV ρ args) w k) :
    Goes P w k ((do let d ← resolve (act N ρ).eval c ty; invoke d.target d.args : Sem Next).run P w) := by
  have e : (c.args.map (act N ρ).eval) = (argsV ρ args).toArray := by
    rw [← Array.toList_inj]; simp [← allA_ev ha]
  simp only [resolve, hcl, Act.eval, Deferred.ofValue, Sem.run_bind, Sem.run_pure, Result.andThen_ok, invoke, e]
  simp only [Array.append_empty, Array.empty_append]
  obtain ⟨v, w', hr, hk⟩ := h
  simp only [lkSem, Sem.run_bind] at hr
  generalize (callFunc f (argsV ρ args).toArray).run P w = x at hr ⊢
  cases x with
  | halt a b => cases hr
  | ok n w'' =>
    simp only [Result.andThen_ok] at hr
    cases n with
    | value u =>
      simp only [Sem.run_pure, Result.ok.injEq] at hr
      obtain ⟨rfl, rfl⟩ := hr
      exact hk
    | _ => cases hr
theorem callv_ok {x : Operand} {fa : Arg} {args : List Arg} {c : Call} {ty : TypeId} (hcl : c.callee = .value x) (hx : trA N x = some fa) (ha : allA N c.args.toList = some args) (h : callvP P (fa.ev ρ) (argsV ρ args) w k) :
    Goes P w k ((do let d ← resolve (act N ρ).eval c ty; invoke d.target d.args : Sem Next).run P w) := by
  have e : (c.args.map (act N ρ).eval) = (argsV ρ args).toArray := by
    rw [← Array.toList_inj]; simp [← allA_ev ha]
  unfold callvP at h
  split at h
  · rename_i g first cap hf
    obtain ⟨hok, h⟩ := h
    simp only [resolve, hcl, trA_ev hx, hf, Deferred.ofValue, Sem.run_bind, Sem.run_pure, Result.andThen_ok, invoke, e, okFn_run hok]
    have e2 : first ++ (argsV ρ args).toArray ++ cap = (first.toList ++ argsV ρ args ++ cap.toList).toArray := by
      rw [← Array.toList_inj]; simp
    rw [e2]
    exact ⟨rfl, h⟩
  · rename_i l first cap hf
    obtain ⟨rfl, rfl, fn, tmps, assign, body, hy, hr⟩ := h
    simp only [resolve, hcl, trA_ev hx, hf, Deferred.ofValue, Sem.run_bind, Sem.run_pure, Result.andThen_ok, invoke, e, Array.empty_append, hy]
    exact ⟨rfl, hr⟩
  · exact h.elim
end
end Go.Proofs.YtmgdkoidgoihfaaGreatDoor.E
