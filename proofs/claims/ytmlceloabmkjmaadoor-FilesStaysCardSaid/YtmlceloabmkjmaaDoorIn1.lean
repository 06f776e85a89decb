/- Nodes: calls whose answer is known. Conditions: as each theorem says. -/
import Derived.Test.YtmlceloabmkjmaaDoorInX
namespace Go.Proofs.YtmlceloabmkjmaaDoor
open E Go.Lib
set_option linter.unusedVariables false
set_option linter.unusedSimpArgs false
set_option maxHeartbeats 1000000
set_option maxRecDepth 20000

section
variable {σ σ' : AS} {X : Ce} {R : List Ck} {k : Value → AS → Prop} {t nb sp N m : Nat} {V V' : TV} {i at_ n a e : Int} {j : Nat} {data s : List UInt8} {d : NV}
theorem emake (h : Hs σ X (Tb t N V :: R)) (hr : doM (0, 0, 0, n, []) V 0 = ((a, s, e), V')) (hk : ∀ σ', Hs σ' X (Tb t N V' :: R) → k (.tuple #[.int .i64 a, .int .i64 e]) σ') :
    kCall Tryd.prog 19 [pp t, .int .i64 n] σ k :=
  vmake_c h fun σ' h' => by rw [hr] at h' ⊢; exact hk σ' h'
theorem etie (h : Hs σ X (Tb t N V :: R)) (hm : ∀ d, atV V i = some d → -1000000 ≤ d.names ∧ d.names ≤ 1000000) (hr : doM (1, i, 0, 0, []) V 0 = ((a, s, e), V')) (hk : ∀ σ', Hs σ' X (Tb t N V' :: R) → k (.int .i64 e) σ') :
    kCall Tryd.prog 20 [pp t, .int .i64 i] σ k :=
  vtie_c h hm fun σ' h' => by rw [hr] at h' ⊢; exact hk σ' h'
theorem euntie (h : Hs σ X (Tb t N V :: R)) (hm : ∀ d, atV V i = some d → -1000000 ≤ d.names ∧ d.names ≤ 1000000) (hr : doM (2, i, 0, 0, []) V 0 = ((a, s, e), V')) (hk : ∀ σ', Hs σ' X (Tb t N V' :: R) → k (.int .i64 e) σ') :
    kCall Tryd.prog 48 [pp t, .int .i64 i] σ k :=
  vuntie_c h hm fun σ' h' => by rw [hr] at h' ⊢; exact hk σ' h'
theorem ecut (h : Hs σ X (Tb t N V :: R)) (hsz : -9223372036854775808 ≤ n) (hr : doM (7, i, 0, n, []) V 0 = ((a, s, e), V')) (hk : ∀ σ', Hs σ' X (Tb t N V' :: R) → k (.int .i64 e) σ') :
    kCall Tryd.prog 40 [pp t, .int .i64 i, .int .i64 n] σ k :=
  vcut_c h hsz fun σ' h' => by rw [hr] at h' ⊢; exact hk σ' h'
theorem ewrite (h : Hs σ X (Tb t N V :: R)) (hat : at_ ≤ 9223372036854775807) (hdl : data.length ≤ 1000000000) (hM : MOk V N (6, i, at_, 0, data) m)
    (hr : doM (6, i, at_, 0, data) V m = ((a, s, e), V')) (hk : ∀ σ', Hs σ' X (Tb t N V' :: R) → k (.tuple #[.int .i64 a, .int .i64 e]) σ') :
    kCall Tryd.prog 42 [pp t, .int .i64 i, .int .i64 at_, .string (bs data)] σ k :=
  vwrite_c (n := 0) h hat hdl fun m' σ' hm h' => by rw [doM_det hm hM, hr] at h' ⊢; exact hk σ' h'
theorem eread (h : Hs σ X (Tb t N V :: R)) (hd : atV V i = some d) (h0 : 0 ≤ at_) (h1 : 0 ≤ n) (hk : ∀ σ', Hs σ' X (Tb t N V :: R) → k (.tuple #[.string (bs ((d.data.drop at_.toNat).take n.toNat)), .int .i64 0]) σ') :
    kCall Tryd.prog 29 [pp t, .int .i64 i, .int .i64 at_, .int .i64 n] σ k :=
  vread_c (data := []) h fun σ' h' => by
    have e : (doM (5, i, at_, n, []) V 0).1 = (0, (d.data.drop at_.toNat).take n.toNat, 0) := by
      simp only [doM]
      rw [hd]
      have : ¬ (at_ < 0 ∨ n < 0) := by omega
      simp only [this, if_false]
      rfl
    rw [e]
    exact hk σ' h'
theorem hasW_count (has : List Bool) (a m : Nat) (h : has.length = 64) : (hasW has a m).count true ≤ 64 := by
  rw [← h, ← hasW_len has a m]; exact List.count_le_length
theorem many_all {has : List Bool} {fr a len : Nat} (h : has.length = 64) (hf : 64 ≤ fr) (ha : a + len ≤ 4096) : IsMany has fr a len len := by
  have := hasW_count has a len h
  exact ⟨Nat.le_refl _, ⟨.inr ha, by omega⟩, .inl rfl⟩
theorem set_same {α : Type} {l : List α} {j : Nat} {x : α} (h : l[j]? = some x) : l.set j x = l := by
  apply List.ext_getElem?
  intro i
  rw [List.getElem?_set]
  split
  · rename_i hi
    subst hi
    rw [if_pos (List.getElem?_eq_some_iff.1 h).1, h]
  · rfl
theorem atV_get (h : atV V i = some d) : 1 ≤ i ∧ V[(i - 1).toNat]? = some (some d) := by
  unfold atV at h
  split at h
  · rename_i h1
    cases hx : V[(i - 1).toNat]? with
    | none => rw [hx] at h; cases h
    | some o => rw [hx] at h; cases o with
      | none => cases h
      | some d' => exact ⟨h1, by rw [← h]; rfl⟩
  · cases h
theorem do_all (hd : atV V i = some d) (h0 : 0 ≤ at_) : doM (6, i, at_, n, data) V data.length = (((data.length : Int), [], 0), putV V i (some ⟨d.kind, d.names, d.users, dataW d.data at_.toNat data.length data, hasW d.has at_.toNat data.length⟩)) := by
  simp only [doM]
  rw [hd]
  have h3 : ¬ at_ < 0 := by omega
  simp only [h3, if_false]
  by_cases hl : data.length = 0
  · have : data = [] := List.eq_nil_of_length_eq_zero hl
    subst this
    obtain ⟨g1, g2⟩ := atV_get hd
    have e : (⟨d.kind, d.names, d.users, dataW d.data at_.toNat 0 [], hasW d.has at_.toNat 0⟩ : NV) = d := by
      rw [hasW_zero]
      rfl
    show ((0, [], 0), V) = _
    simp only [List.length_nil]
    rw [e, putV, set_same g2]
    rfl
  · simp only [hl, if_false]
    rfl
theorem dataW_len (s t : List UInt8) (a m : Nat) (hm : m ≤ t.length) : (dataW s a m t).length = if m = 0 then s.length else max s.length (a + m) := by
  unfold dataW
  split
  · rfl
  · simp only [List.length_append, List.length_take, List.length_drop, List.length_replicate]
    omega
/-- What is wanted of a write. -/
abbrev rep64 : List Bool := List.replicate 64 false
theorem rep64_len : rep64.length = 64 := by simp
theorem dw0 (s : List UInt8) : dataW [] 0 s.length s = s := by
  unfold dataW
  split
  · rename_i h
    exact (List.eq_nil_of_length_eq_zero h).symm
  · rw [List.drop_of_length_le (by simp)]
    simp
theorem rd0 (s : List UInt8) (n : Int) (h : s.length ≤ n.toNat) : (s.drop (0 : Int).toNat).take n.toNat = s := by
  simp only [Int.toNat_zero, List.drop_zero]
  exact List.take_of_length_le h
theorem dataW_end (s t : List UInt8) : dataW s s.length t.length t = s ++ t := by
  unfold dataW
  split
  · rename_i h
    rw [List.eq_nil_of_length_eq_zero h, List.append_nil]
  · rw [List.take_left', List.take_length, List.drop_of_length_le (by simp), List.append_nil]
    rfl
theorem many_fr {has : List Bool} {fr a len : Nat} (h : has.length = 64) (hf : 64 ≤ fr + has.count true) (ha : a + len ≤ 4096) : IsMany has fr a len len := by
  have := hasW_count has a len h
  exact ⟨Nat.le_refl _, ⟨.inr ha, by omega⟩, .inl rfl⟩
end
end Go.Proofs.YtmlceloabmkjmaaDoor
