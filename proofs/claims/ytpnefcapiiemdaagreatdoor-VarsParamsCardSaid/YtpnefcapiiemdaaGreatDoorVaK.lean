/- Variables in order: the comparison of names, and the sort by its contract. Conditions: none. -/
import Derived.Test.YtpnefcapiiemdaaGreatDoorVaH
import Derived.Test.YtpnefcapiiemdaaGreatDoorT
import Derived.Lib.Bytealg
import Derived.WalkKit
namespace Go.Proofs.YtpnefcapiiemdaaGreatDoor
open E Go.Lib
set_option linter.unusedVariables false
set_option linter.unusedSimpArgs false
set_option maxHeartbeats 1000000
set_option maxRecDepth 20000
theorem cb_refl : ∀ a : List UInt8, compareBytes a a = 0
  | [] => rfl
  | a :: xs => by
    have h : ¬ a < a := fun h => by have := UInt8.lt_iff_toNat_lt.1 h; omega
    simp only [compareBytes, h, if_false]; exact cb_refl xs
theorem cb_swap : ∀ a b : List UInt8, compareBytes b a = - compareBytes a b
  | [], [] => rfl
  | [], _ :: _ => rfl
  | _ :: _, [] => rfl
  | a :: xs, b :: ys => by
    simp only [compareBytes]
    by_cases h1 : a < b
    · have h2 : ¬ b < a := fun h => by have := UInt8.lt_iff_toNat_lt.1 h; have := UInt8.lt_iff_toNat_lt.1 h1; omega
      simp only [h1, h2, if_true, if_false]
      rfl
    · by_cases h2 : b < a
      · simp only [h1, h2, if_true, if_false]
      · simp only [h1, h2, if_false]
        exact cb_swap xs ys
theorem cb_eq : ∀ {a b : List UInt8}, compareBytes a b = 0 → a = b
  | [], [], _ => rfl
  | [], _ :: _, h => by cases h
  | _ :: _, [], h => by cases h
  | a :: xs, b :: ys, h => by
    simp only [compareBytes] at h
    by_cases h1 : a < b
    · simp [h1] at h
    · by_cases h2 : b < a
      · simp [h1, h2] at h
      · simp only [h1, h2, if_false] at h
        have : a = b := by
          apply UInt8.toNat_inj.1
          have e1 : ¬ a.toNat < b.toNat := fun h => h1 (UInt8.lt_iff_toNat_lt.2 h)
          have e2 : ¬ b.toNat < a.toNat := fun h => h2 (UInt8.lt_iff_toNat_lt.2 h)
          omega
        rw [this, cb_eq h]
theorem cb_trans : ∀ {a b c : List UInt8}, compareBytes a b < 0 → compareBytes b c < 0 → compareBytes a c < 0
  | [], [], _, h, _ => by simp [compareBytes] at h
  | _ :: _, [], _, h, _ => by simp [compareBytes] at h
  | [], _ :: _, [], _, h => by simp [compareBytes] at h
  | [], _ :: _, _ :: _, _, _ => by simp [compareBytes]
  | _ :: _, _ :: _, [], _, h => by simp [compareBytes] at h
  | a :: xs, b :: ys, c :: cs, h1, h2 => by
    simp only [compareBytes] at h1 h2 ⊢
    have tt : ∀ {x y : UInt8}, x < y ↔ x.toNat < y.toNat := UInt8.lt_iff_toNat_lt
    by_cases ab : a < b
    · by_cases bc : b < c
      · have : a < c := by rw [tt] at *; omega
        simp [this]
      · by_cases cb : c < b
        · simp [bc, cb] at h2
        · have : a < c := by rw [tt] at *; omega
          simp [this]
    · by_cases ba : b < a
      · simp [ab, ba] at h1
      · simp only [ab, ba, if_false] at h1
        by_cases bc : b < c
        · have : a < c := by rw [tt] at *; omega
          simp [this]
        · by_cases cb : c < b
          · simp [bc, cb] at h2
          · simp only [bc, cb, if_false] at h2
            have n1 : ¬ a < c := by rw [tt] at *; omega
            have n2 : ¬ c < a := by rw [tt] at *; omega
            simp only [n1, n2, if_false]
            exact cb_trans h1 h2
abbrev cfS (x y : Str) : Int := compareBytes x y
theorem swoS : Sort.SWO (ltOf cfS) where
  irrefl x := by unfold ltOf cfS; rw [cb_refl]; rfl
  trans x y z h1 h2 := by
    unfold ltOf cfS at *
    rw [decide_eq_true_iff] at *
    exact cb_trans h1 h2
  ntrans x y z h1 h2 := by
    unfold ltOf cfS at *
    rw [decide_eq_false_iff_not] at *
    intro h3
    have e1 := cb_swap x y
    have e2 := cb_swap y z
    by_cases hxy : compareBytes x y = 0
    · rw [cb_eq hxy] at h3; exact h2 h3
    · have := cb_trans (a := y) (b := x) (c := z) (by omega) h3
      exact h2 this
end Go.Proofs.YtpnefcapiiemdaaGreatDoor
