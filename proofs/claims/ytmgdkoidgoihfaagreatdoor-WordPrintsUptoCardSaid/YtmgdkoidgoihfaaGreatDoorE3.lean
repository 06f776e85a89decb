/- That the translation of an operation is sound. Conditions: none. -/
import Derived.Test.YtmgdkoidgoihfaaGreatDoorE2
namespace Go.Proofs.YtmgdkoidgoihfaaGreatDoor.E
open Go.RowKit

section
variable {P : Program} {N : Nat} {ρ : Env} {w : World} {k : Value → World → Prop}

theorem run_eqGuard_plain (op : BinOp) (t : TypeId) (x y : Operand) (a b : Value) (h : (match a, b with | .nilIface, .nilIface => false | .agg _, .agg _ => false | _, _ => true) = true) : (eqGuard op t x y a b).run P w = .ok () w := by
  unfold eqGuard
  cases a <;> cases b <;> first | (simp at h; done) | (split <;> rfl)

theorem goes_bin {op : BinOp} {t : TypeId} {x y : Operand} {a b : Value} {v : Value} (h : binV op a b = some v) (hop : op ≠ .shl ∧ op ≠ .shr) :
    (do eqGuard op t x y a b; binOp op t a b : Sem Value).run P w = .ok v w := by
  have hg : (eqGuard op t x y a b).run P w = .ok () w := run_eqGuard_plain op t x y a b (by cases a <;> cases b <;> first | rfl | simp [binV] at h)
  rw [Sem.run_bind, hg, Result.andThen_ok]
  cases a <;> cases b <;> simp only [binV] at h <;> try (cases h; done)
  case int.int ka a kb b =>
    split at h
    · rename_i hk; subst hk
      cases op <;> simp [intV] at h <;> simp_all [binOp, Op.intArith, Op.intDiv, Op.intBits, Op.intCmp]
      all_goals
        subst h
        first | rfl | (congr 1; rw [Bool.eq_iff_iff]; simp; done) | skip
    · cases h
  case string.string s u =>
    cases op <;> simp [strV] at h <;> simp_all [binOp, Op.stringOp, ByteArray.toList_eq]
    case add =>
      obtain ⟨h1, rfl⟩ := h
      rw [if_neg (by omega)]
      congr 2
    all_goals
      have e : (s.data == u.data) = decide (s.data = u.data) := by rw [Bool.eq_iff_iff]; simp
      rw [e]
      exact h

theorem sft_run {op : BinOp} {t : TypeId} {x y : Operand} {a b : Value} {v : Value} (h : sftV op a b = some v) (hop : op = .shl ∨ op = .shr) :
    (do eqGuard op t x y a b; binOp op t a b : Sem Value).run P w = .ok v w := by
  have hg : (eqGuard op t x y a b).run P w = .ok () w := run_eqGuard_plain op t x y a b (by cases a <;> cases b <;> first | rfl | simp [sftV] at h)
  rw [Sem.run_bind, hg, Result.andThen_ok]
  cases a <;> cases b <;> simp only [sftV] at h <;> try (cases h; done)
  case int.int ka a kb b =>
    unfold shV at h
    split at h
    · cases h
    · rename_i hb
      rcases hop with rfl | rfl <;> simp [binOp, Op.shift, hb] <;> simpa using h

def eqTy (P : Program) (t : TypeId) (kd : Nat) : Bool :=
  match P.underlying t, kd with
  | some (.pointer _), 0 | some (.slice _), 1 | some (.map _ _), 2 | some (.func _ _ _), 3 | some .bool, 4 => true
  | _, _ => false
theorem eqIn_run {t : TypeId} {a b : Value} {r : Bool} {kd : Nat} (h : eqV kd a b = some r) (d : Nat) (ht : eqTy P t kd = true) :
    (Op.equalIn (d + 1) t a b).run P w = .ok r w := by
  unfold eqTy at ht
  unfold eqV at h
  unfold Op.equalIn
  split at h <;> first | (cases h; done) | skip
  all_goals
    split at ht <;> simp at * <;> try (cases ht; done)
    rename_i hu _
    first
      | (simp [run_underlying hu]; exact h)
      | (simp [run_underlying hu, h])
theorem eq_run {op : BinOp} {t : TypeId} {x y : Operand} {a b : Value} {r : Bool} {kd : Nat} {neg : Bool} (h : eqV kd a b = some r) (ht : eqTy P t kd = true) (hop : op = if neg then .neq else .eql) :
    (do eqGuard op t x y a b; binOp op t a b : Sem Value).run P w = .ok (.bool (r != neg)) w := by
  have hg : (eqGuard op t x y a b).run P w = .ok () w := run_eqGuard_plain op t x y a b (by
    unfold eqV at h
    split at h <;> first | rfl | (cases h; done))
  have he := eqIn_run (w := w) h 9999 ht
  rw [Sem.run_bind, hg, Result.andThen_ok]
  have hq : (Op.equal t a b).run P w = .ok r w := he
  have hb : ∀ op', (op' = .eql ∨ op' = .neq) → binOp op' t a b = (if op' = .eql then (do pure (.bool (← Op.equal t a b))) else (do pure (.bool (!(← Op.equal t a b)))) : Sem Value) := by
    intro op' hop'
    unfold eqV at h
    split at h <;> first | (cases h; done) | (rcases hop' with rfl | rfl <;> rfl)
  cases neg
  · simp at hop; subst hop
    rw [hb _ (.inl rfl)]
    simp [hq]
  · simp at hop; subst hop
    rw [hb _ (.inr rfl)]
    simp [hq]

theorem eqi_run {op : BinOp} {t : TypeId} {x y : Operand} {a b : Value} {r : Bool} {neg : Bool} (h : eqI a b = some r) (ht : (match P.underlying t with | some (.interface _) => true | _ => false) = true) (hc : (isC x || isC y) = true) (hop : op = if neg then .neq else .eql) :
    (do eqGuard op t x y a b; binOp op t a b : Sem Value).run P w = .ok (.bool (r != neg)) w := by
  have hg : (eqGuard op t x y a b).run P w = .ok () w := by
    unfold eqGuard
    unfold eqI at h
    split at h <;> first | (cases h; done) | (split <;> first | rfl | (cases x <;> cases y <;> first | rfl | simp [isC] at hc))
  have he : (Op.equal t a b).run P w = .ok r w := by
    show (Op.equalIn (9999 + 1) t a b).run P w = .ok r w
    unfold Op.equalIn
    split at ht
    · rename_i hu
      unfold eqI at h
      split at h <;> first | (cases h; done) | (injection h with h; subst h; simp [run_underlying hu])
    · cases ht
  rw [Sem.run_bind, hg, Result.andThen_ok]
  have hb : ∀ op', (op' = .eql ∨ op' = .neq) → binOp op' t a b = (if op' = .eql then (do pure (.bool (← Op.equal t a b))) else (do pure (.bool (!(← Op.equal t a b)))) : Sem Value) := by
    intro op' hop'
    unfold eqI at h
    split at h <;> first | (cases h; done) | (rcases hop' with rfl | rfl <;> rfl)
  cases neg
  · simp at hop; subst hop
    rw [hb _ (.inl rfl)]
    simp [he]
  · simp at hop; subst hop
    rw [hb _ (.inr rfl)]
    simp [he]

theorem bin_ok {op : BinOp} {t : TypeId} {x y : Operand} {a b : Arg} (h : vcI P (trBin P op t (isC x || isC y) a b) ρ w k) :
    ∃ v, (do eqGuard op t x y (a.ev ρ) (b.ev ρ); binOp op t (a.ev ρ) (b.ev ρ) : Sem Value).run P w = .ok v w ∧ k v w := by
  have hEq : ∀ neg, op = (if neg then .neq else .eql) → vcI P (trEq P neg t (isC x || isC y) a b) ρ w k → ∃ v, (do eqGuard op t x y (a.ev ρ) (b.ev ρ); binOp op t (a.ev ρ) (b.ev ρ) : Sem Value).run P w = .ok v w ∧ k v w := by
    intro neg hop h
    have hshl : op ≠ .shl ∧ op ≠ .shr := by cases neg <;> simp at hop <;> subst hop <;> simp
    unfold trEq at h
    split at h
    case h_6 hu =>
      split at h
      · rename_i hc
        obtain ⟨r, hr, hk⟩ := seqO_ex h
        exact ⟨_, eqi_run hr (by rw [hu]) hc hop, hk⟩
      · exact h.elim
    case h_7 =>
      obtain ⟨r, hr, hk⟩ := seqO_ex h
      rw [← hop] at hr
      exact ⟨_, goes_bin hr hshl, hk⟩
    case h_8 =>
      obtain ⟨r, hr, hk⟩ := seqO_ex h
      rw [← hop] at hr
      exact ⟨_, goes_bin hr hshl, hk⟩
    case h_9 => exact h.elim
    all_goals
      rename_i hu
      obtain ⟨r, hr, hk⟩ := seqO_ex h
      exact ⟨_, eq_run hr (by simp [eqTy, hu]) hop, hk⟩
  unfold trBin at h
  split at h
  · exact hEq false rfl h
  · exact hEq true rfl h
  · obtain ⟨v, hv, hk⟩ := seqO_ex h
    exact ⟨v, sft_run hv (.inl rfl), hk⟩
  · obtain ⟨v, hv, hk⟩ := seqO_ex h
    exact ⟨v, sft_run hv (.inr rfl), hk⟩
  · rename_i h1 h2
    obtain ⟨v, hv, hk⟩ := seqO_ex h
    exact ⟨v, goes_bin hv ⟨by simpa using h1, by simpa using h2⟩, hk⟩
end
end Go.Proofs.YtmgdkoidgoihfaaGreatDoor.E
