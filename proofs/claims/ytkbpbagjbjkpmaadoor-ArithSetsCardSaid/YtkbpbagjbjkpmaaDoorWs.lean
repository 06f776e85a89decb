/- Sums and what is set, of any two numbers: as plain data. Conditions: none. -/
import Derived.Test.YtkbpbagjbjkpmaaDoorWm
namespace Go.Proofs.YtkbpbagjbjkpmaaDoor
open E Go.Lib
open Rp
set_option linter.unusedVariables false
set_option linter.unusedSimpArgs false
set_option maxHeartbeats 1000000
set_option maxRecDepth 20000

abbrev abV (a b : Int) : List (Str × Str) := [([97], itoa a), ([98], itoa b)]
def abL (a b : Int) (n : Str) : Int × Int := if n = [97] then (a, 0) else if n = [98] then (b, 0) else (0, 0)
theorem look_ab {a b : Int} (ha : inI64 a) (hb : inI64 b) : lookV (abV a b) = abL a b := by
  funext n
  unfold lookV abL
  by_cases h1 : n = [97]
  · subst h1
    rw [if_pos rfl, ← val_itoa ha]
    rfl
  · by_cases h2 : n = [98]
    · subst h2
      rw [if_neg (by decide), if_pos rfl, ← val_itoa hb]
      rfl
    · rw [if_neg h1, if_neg h2]
      have h1' : decide (([97] : Str) = n) = false := decide_eq_false fun h => h1 h.symm
      have h2' : decide (([98] : Str) = n) = false := decide_eq_false fun h => h2 h.symm
      simp only [List.find?_cons, h1', h2', List.find?_nil, Option.map_none, Option.getD_none]
      rfl
abbrev evA (a b : Int) (s : Str) : Int × List (Str × Int) × Int := evalG (abL a b) (evF s) s
section
variable (a b : Int)
theorem s_add : evA a b [97, 32, 43, 32, 98] = (wI (a + b), [], 0) := by kernel_rfl
theorem s_sub : evA a b [97, 32, 45, 32, 98] = (wI (a - b), [], 0) := by kernel_rfl
theorem s_mul : evA a b [97, 32, 42, 32, 98] = (wI (a * b), [], 0) := by kernel_rfl
theorem s_and : evA a b [97, 32, 38, 32, 98] = (bI .and a b, [], 0) := by kernel_rfl
theorem s_or : evA a b [97, 32, 124, 32, 98] = (bI .or a b, [], 0) := by kernel_rfl
theorem s_xor : evA a b [97, 32, 94, 32, 98] = (bI .xor a b, [], 0) := by kernel_rfl
theorem s_neg : evA a b [45, 97] = (wI (0 - a), [], 0) := by kernel_rfl
theorem s_not : evA a b [126, 97] = (-a - 1, [], 0) := by kernel_rfl
theorem s_shl : evA a b [97, 32, 60, 60, 32, 49] = (shI .shl a 1, [], 0) := by kernel_rfl
theorem s_shr : evA a b [97, 32, 62, 62, 32, 54, 51] = (shI .shr a 63, [], 0) := by kernel_rfl
theorem s_lt : evA a b [97, 32, 60, 32, 98] = (truthI (decide (a < b)), [], 0) := by kernel_rfl
theorem s_le : evA a b [97, 32, 60, 61, 32, 98] = (truthI (decide (a ≤ b)), [], 0) := by kernel_rfl
theorem s_gt : evA a b [97, 32, 62, 32, 98] = (truthI (decide (b < a)), [], 0) := by kernel_rfl
theorem s_ge : evA a b [97, 32, 62, 61, 32, 98] = (truthI (decide (b ≤ a)), [], 0) := by kernel_rfl
theorem s_eq : evA a b [97, 32, 61, 61, 32, 98] = (truthI (decide (a = b)), [], 0) := by kernel_rfl
theorem s_ne : evA a b [97, 32, 33, 61, 32, 98] = (truthI (decide (¬ a = b)), [], 0) := by kernel_rfl
theorem s_rem0 : evA a 0 [97, 32, 37, 32, 98] = (0, [], 13) := by kernel_rfl
theorem t_set : evA a b [99, 32, 61, 32, 97, 32, 45, 32, 98] = (wI (a - b), [([99], wI (a - b))], 0) := by kernel_rfl
theorem t_add : evA a b [40, 97, 32, 43, 61, 32, 98, 41, 32, 45, 32, 97] = (wI (wI (a + b) - wI (a + b)), [([97], wI (a + b))], 0) := by kernel_rfl
theorem t_or : evA a b [49, 32, 124, 124, 32, 40, 120, 32, 61, 32, 49, 32, 47, 32, 48, 41] = (1, [], 0) := by kernel_rfl
theorem t_ch0 : evA 0 b [97, 32, 63, 32, 40, 120, 32, 61, 32, 98, 41, 32, 58, 32, 40, 121, 32, 61, 32, 98, 41] = (b, [([121], b)], 0) := by kernel_rfl
/-- From a rank down to the first one. -/
theorem climbR {look : Str → Int × Int} {f r0 : Nat} {n : Int} {st st2 : ASt} (hr0 : r0 ≤ 11) (h : ev look f (.rank r0) st = some (n, st2)) (h0 : ∀ r, ¬ r = 0 → r < r0 → ¬ rankOf (nextP (skipB st2.left)) = r) : ∀ j, j < r0 → ∃ l, ev look (f + j) (.rank (r0 - j)) st = some (n, st2.at l) ∧ skipB l = skipB st2.left := by
  intro j
  induction j with
  | zero => intro _; exact ⟨st2.left, h, rfl⟩
  | succ j ih =>
    intro hj
    obtain ⟨l, h1, h2⟩ := ih (by omega)
    have e : r0 - (j + 1) + 1 = r0 - j := by omega
    rw [show f + (j + 1) = (f + j) + 1 from rfl, ev_rank_lo (by omega), e, h1]
    refine ⟨skipB l, ?_, by rw [skip_skip]; exact h2⟩
    have hf : ∃ f', f + j = f' + 1 := by
      cases hfj : f + j with
      | zero => rw [hfj] at h1; cases h1
      | succ f' => exact ⟨f', rfl⟩
    obtain ⟨f', hf'⟩ := hf
    show ev look (f + j) (.loop (r0 - (j + 1)) n) (st2.at l) = _
    have en : (st2.at l).skip.left = skipB st2.left := h2
    rw [hf', ev_loop_out (by rw [en]; exact h0 _ (by omega) (by omega))]
    rfl
theorem fin_evA {a b : Int} {s : Str} {n : Int} {st : ASt} (hs : s.length ≤ 4096) (hx : skipB s = s) (h0 : ¬ s = []) (h : ev (abL a b) (evF s) .set ⟨s, 0, 0, []⟩ = some (n, st)) (h1 : skipB st.left = []) (h2 : st.fell = 0) : evA a b s = (n, st.sets, 0) := by
  show evalG _ _ _ = _
  unfold evalG
  rw [if_neg (by omega), hx, if_neg h0, h]
  simp only [if_neg (show ¬ ¬ skipB st.left = [] from fun h => h h1), if_neg (show ¬ ¬ st.fell = 0 from fun h => h h2)]
theorem t_chN (h : ¬ a = 0) : evA a b [97, 32, 63, 32, 40, 120, 32, 61, 32, 98, 41, 32, 58, 32, 40, 121, 32, 61, 32, 98, 41] = (b, [([120], b)], 0) := by
  refine fin_evA (st := ⟨[], 0, 0, [([120], b)]⟩) (by decide) (by kernel_rfl) (by decide) ?_ rfl rfl
  show ev (abL a b) (459 + 1) .set _ = _
  rw [ev_set_out (by decide +kernel)]
  have h1 : ev (abL a b) 458 (.rank 1) (ASt.mk [97, 32, 63, 32, 40, 120, 32, 61, 32, 98, 41, 32, 58, 32, 40, 121, 32, 61, 32, 98, 41] 0 0 []).skip = some (a, ⟨[63, 32, 40, 120, 32, 61, 32, 98, 41, 32, 58, 32, 40, 121, 32, 61, 32, 98, 41], 0, 0, []⟩) := by kernel_rfl
  have h2 : ev (abL a b) 458 .set ⟨[32, 40, 120, 32, 61, 32, 98, 41, 32, 58, 32, 40, 121, 32, 61, 32, 98, 41], 0, 0, []⟩ = some (b, ⟨[58, 32, 40, 121, 32, 61, 32, 98, 41], 0, 0, [([120], b)]⟩) := by kernel_rfl
  have h3 : ev (abL a b) 458 .choice ⟨[32, 40, 121, 32, 61, 32, 98, 41], 1, 0, [([120], b)]⟩ = some (0, ⟨[], 1, 0, [([120], b)]⟩) := by kernel_rfl
  show ev (abL a b) (458 + 1) .choice _ = _
  rw [ev_choice_in (t := [32, 40, 120, 32, 61, 32, 98, 41, 32, 58, 32, 40, 121, 32, 61, 32, 98, 41]) h1 (by kernel_rfl), decide_eq_true h, decide_eq_false h]
  have h2' : ev (abL a b) 458 .set ((ASt.at ⟨[63, 32, 40, 120, 32, 61, 32, 98, 41, 32, 58, 32, 40, 121, 32, 61, 32, 98, 41], 0, 0, []⟩ [32, 40, 120, 32, 61, 32, 98, 41, 32, 58, 32, 40, 121, 32, 61, 32, 98, 41]).pass true) = some (b, ⟨[58, 32, 40, 121, 32, 61, 32, 98, 41], 0, 0, [([120], b)]⟩) := h2
  rw [h2']
  have e1 : skipB (ASt.mk [58, 32, 40, 121, 32, 61, 32, 98, 41] 0 0 [([120], b)]).left = 58 :: [32, 40, 121, 32, 61, 32, 98, 41] := by kernel_rfl
  simp only [e1]
  have h3' : ev (abL a b) 458 .choice (((ASt.mk [58, 32, 40, 121, 32, 61, 32, 98, 41] 0 0 [([120], b)]).un (ASt.mk [63, 32, 40, 120, 32, 61, 32, 98, 41, 32, 58, 32, 40, 121, 32, 61, 32, 98, 41] 0 0 []).over).at [32, 40, 121, 32, 61, 32, 98, 41] |>.pass false) = some (0, ⟨[], 1, 0, [([120], b)]⟩) := h3
  rw [h3']
  simp only [if_neg h]
  rfl
theorem doesP_of {op : Str} {x y q : Int} {l : Str} (h : doP op x y = (q, 0)) : doesP op x y (ASt.un ⟨l, 0, 0, []⟩ 0) = (q, ⟨l, 0, 0, []⟩) := by
  have hlv : (ASt.un ⟨l, 0, 0, []⟩ 0).live = true := rfl
  unfold doesP
  rw [if_pos hlv, h]
  rfl
theorem s_div {q r : Int} (hq : doP [47] a b = (q, 0)) (hr : doP [37] a b = (r, 0)) : evA a b [97, 32, 47, 32, 98, 32, 42, 32, 98, 32, 43, 32, 97, 32, 37, 32, 98, 32, 45, 32, 97] = (wI (wI (wI (q * b) + r) - a), [], 0) := by
  refine fin_evA (st := ⟨[], 0, 0, []⟩) (by decide) (by kernel_rfl) (by decide) ?_ rfl rfl
  show ev (abL a b) (459 + 1) .set _ = _
  rw [ev_set_out (by decide +kernel)]
  have esk : (ASt.mk [97, 32, 47, 32, 98, 32, 42, 32, 98, 32, 43, 32, 97, 32, 37, 32, 98, 32, 45, 32, 97] 0 0 []).skip = ⟨[97, 32, 47, 32, 98, 32, 42, 32, 98, 32, 43, 32, 97, 32, 37, 32, 98, 32, 45, 32, 97], 0, 0, []⟩ := by kernel_rfl
  rw [esk]
  have k1 : ev (abL a b) 448 (.rank 11) ⟨[97, 32, 47, 32, 98, 32, 42, 32, 98, 32, 43, 32, 97, 32, 37, 32, 98, 32, 45, 32, 97], 0, 0, []⟩ = some (a, ⟨[32, 47, 32, 98, 32, 42, 32, 98, 32, 43, 32, 97, 32, 37, 32, 98, 32, 45, 32, 97], 0, 0, []⟩) := by kernel_rfl
  have k2 : ev (abL a b) 447 (.rank 11) ⟨[32, 98, 32, 42, 32, 98, 32, 43, 32, 97, 32, 37, 32, 98, 32, 45, 32, 97], 0, 0, []⟩ = some (b, ⟨[32, 42, 32, 98, 32, 43, 32, 97, 32, 37, 32, 98, 32, 45, 32, 97], 0, 0, []⟩) := by kernel_rfl
  have k3 : ev (abL a b) 447 (.loop 10 q) ⟨[32, 42, 32, 98, 32, 43, 32, 97, 32, 37, 32, 98, 32, 45, 32, 97], 0, 0, []⟩ = some (wI (q * b), ⟨[43, 32, 97, 32, 37, 32, 98, 32, 45, 32, 97], 0, 0, []⟩) := by kernel_rfl
  have k4 : ev (abL a b) 449 (.rank 10) ⟨[97, 32, 47, 32, 98, 32, 42, 32, 98, 32, 43, 32, 97, 32, 37, 32, 98, 32, 45, 32, 97], 0, 0, []⟩ = some (wI (q * b), ⟨[43, 32, 97, 32, 37, 32, 98, 32, 45, 32, 97], 0, 0, []⟩) := by
    rw [ev_rank_lo (f := 448) (by decide), k1]
    simp only
    rw [ev_loop_in (f := 447) (by kernel_rfl) (by decide)]
    have e : ((ASt.mk [32, 47, 32, 98, 32, 42, 32, 98, 32, 43, 32, 97, 32, 37, 32, 98, 32, 45, 32, 97] 0 0 []).skip.at ((ASt.mk [32, 47, 32, 98, 32, 42, 32, 98, 32, 43, 32, 97, 32, 37, 32, 98, 32, 45, 32, 97] 0 0 []).skip.left.drop (nextP (ASt.mk [32, 47, 32, 98, 32, 42, 32, 98, 32, 43, 32, 97, 32, 37, 32, 98, 32, 45, 32, 97] 0 0 []).skip.left).length)).pass (if (10 : Nat) = 1 then decide (a = 0) else if (10 : Nat) = 2 then decide (¬ a = 0) else true) = ⟨[32, 98, 32, 42, 32, 98, 32, 43, 32, 97, 32, 37, 32, 98, 32, 45, 32, 97], 0, 0, []⟩ := by kernel_rfl
    rw [e, k2]
    have e2 : nextP (ASt.mk [32, 47, 32, 98, 32, 42, 32, 98, 32, 43, 32, 97, 32, 37, 32, 98, 32, 45, 32, 97] 0 0 []).skip.left = [47] := by kernel_rfl
    simp only [e2]
    rw [if_neg (by decide), if_neg (by decide), doesP_of hq]
    exact k3
  have m1 : ev (abL a b) 447 (.rank 11) ⟨[32, 97, 32, 37, 32, 98, 32, 45, 32, 97], 0, 0, []⟩ = some (a, ⟨[32, 37, 32, 98, 32, 45, 32, 97], 0, 0, []⟩) := by kernel_rfl
  have m2 : ev (abL a b) 446 (.rank 11) ⟨[32, 98, 32, 45, 32, 97], 0, 0, []⟩ = some (b, ⟨[32, 45, 32, 97], 0, 0, []⟩) := by kernel_rfl
  have m3 : ev (abL a b) 446 (.loop 10 r) ⟨[32, 45, 32, 97], 0, 0, []⟩ = some (r, ⟨[45, 32, 97], 0, 0, []⟩) := by kernel_rfl
  have m4 : ev (abL a b) 448 (.rank 10) ⟨[32, 97, 32, 37, 32, 98, 32, 45, 32, 97], 0, 0, []⟩ = some (r, ⟨[45, 32, 97], 0, 0, []⟩) := by
    rw [ev_rank_lo (f := 447) (by decide), m1]
    simp only
    rw [ev_loop_in (f := 446) (by kernel_rfl) (by decide)]
    have e : ((ASt.mk [32, 37, 32, 98, 32, 45, 32, 97] 0 0 []).skip.at ((ASt.mk [32, 37, 32, 98, 32, 45, 32, 97] 0 0 []).skip.left.drop (nextP (ASt.mk [32, 37, 32, 98, 32, 45, 32, 97] 0 0 []).skip.left).length)).pass (if (10 : Nat) = 1 then decide (a = 0) else if (10 : Nat) = 2 then decide (¬ a = 0) else true) = ⟨[32, 98, 32, 45, 32, 97], 0, 0, []⟩ := by kernel_rfl
    rw [e, m2]
    have e2 : nextP (ASt.mk [32, 37, 32, 98, 32, 45, 32, 97] 0 0 []).skip.left = [37] := by kernel_rfl
    simp only [e2]
    rw [if_neg (by decide), if_neg (by decide), doesP_of hr]
    exact m3
  have n1 : ev (abL a b) 448 (.loop 9 (wI (wI (q * b) + r))) ⟨[45, 32, 97], 0, 0, []⟩ = some (wI (wI (wI (q * b) + r) - a), ⟨[], 0, 0, []⟩) := by kernel_rfl
  have n2 : ev (abL a b) 450 (.rank 9) ⟨[97, 32, 47, 32, 98, 32, 42, 32, 98, 32, 43, 32, 97, 32, 37, 32, 98, 32, 45, 32, 97], 0, 0, []⟩ = some (wI (wI (wI (q * b) + r) - a), ⟨[], 0, 0, []⟩) := by
    rw [ev_rank_lo (f := 449) (by decide), k4]
    simp only
    rw [ev_loop_in (f := 448) (by kernel_rfl) (by decide)]
    have e : ((ASt.mk [43, 32, 97, 32, 37, 32, 98, 32, 45, 32, 97] 0 0 []).skip.at ((ASt.mk [43, 32, 97, 32, 37, 32, 98, 32, 45, 32, 97] 0 0 []).skip.left.drop (nextP (ASt.mk [43, 32, 97, 32, 37, 32, 98, 32, 45, 32, 97] 0 0 []).skip.left).length)).pass (if (9 : Nat) = 1 then decide (wI (q * b) = 0) else if (9 : Nat) = 2 then decide (¬ wI (q * b) = 0) else true) = ⟨[32, 97, 32, 37, 32, 98, 32, 45, 32, 97], 0, 0, []⟩ := by kernel_rfl
    rw [e, m4]
    have e2 : nextP (ASt.mk [43, 32, 97, 32, 37, 32, 98, 32, 45, 32, 97] 0 0 []).skip.left = [43] := by kernel_rfl
    simp only [e2]
    rw [if_neg (by decide), if_neg (by decide), doesP_of (q := wI (wI (q * b) + r)) rfl]
    exact n1
  obtain ⟨l, h6, h7⟩ := climbR (by decide) n2 (fun r h1 h2 h3 => h1 (h3.symm.trans rfl)) 8 (by decide)
  have h7 : skipB l = [] := h7
  have h6' : ev (abL a b) 458 (.rank 1) ⟨[97, 32, 47, 32, 98, 32, 42, 32, 98, 32, 43, 32, 97, 32, 37, 32, 98, 32, 45, 32, 97], 0, 0, []⟩ = some (wI (wI (wI (q * b) + r) - a), (ASt.mk [] 0 0 []).at l) := h6
  show ev (abL a b) (458 + 1) .choice _ = _
  rw [ev_choice_out h6' (by
    intro t ht
    have ht : skipB l = 63 :: t := ht
    rw [h7] at ht
    cases ht)]
  have e2 : ((ASt.mk [] 0 0 []).at l).skip = ⟨[], 0, 0, []⟩ := by
    show ASt.at (ASt.mk [] 0 0 []) (skipB l) = _
    rw [h7]
    rfl
  rw [e2]
theorem div_zero {q r : Int} (ha : inI64 a) (hb : inI64 b) (h0 : ¬ b = 0) (hq : doP [47] a b = (q, 0)) (hr : doP [37] a b = (r, 0)) : wI (wI (wI (q * b) + r) - a) = 0 := by
  rw [do_quo, if_neg h0] at hq
  rw [do_rem, if_neg h0] at hr
  by_cases hl : a = lowI ∧ b = -1
  · rw [if_pos hl] at hq hr
    obtain ⟨rfl, rfl⟩ := hl
    injection hq with hq _
    injection hr with hr _
    rw [← hq, ← hr]
    decide
  · rw [if_neg hl] at hq hr
    injection hq with hq _
    injection hr with hr _
    have hm := Int.mul_tdiv_add_tmod a b
    have ht := tmod_in (a := a) (b := b) ha
    have hin : inI64 (a.tdiv b) := by
      have h1 : (a.tdiv b).natAbs ≤ a.natAbs := by
        rw [Int.natAbs_tdiv]
        exact Nat.div_le_self _ _
      unfold inI64 lowI at *
      by_cases hq2 : a.tdiv b = 9223372036854775808
      · exfalso
        have ha2 : a = -9223372036854775808 := by omega
        rw [hq2, ha2] at hm
        rw [ha2] at ht
        have h5 : b = -1 := by
          have := Int.tmod_lt_of_pos
          have h6 : ((-9223372036854775808 : Int).tmod b).natAbs < b.natAbs := by
            rw [Int.natAbs_tmod]
            exact Nat.mod_lt _ (by omega)
          have h7 : ((-9223372036854775808 : Int).tmod b) ≤ 0 := by
            rw [show (-9223372036854775808 : Int) = -(9223372036854775808) from rfl, Int.neg_tmod]
            have := Int.tmod_nonneg (a := 9223372036854775808) b (by decide)
            omega
          omega
        exact hl ⟨ha2, h5⟩
      · omega
    have hw : wI (a.tdiv b) = a.tdiv b := by
      unfold wI
      exact wrap64 _ hin.1 hin.2
    rw [hw] at hq
    rw [← hq, ← hr]
    have hmm : a.tdiv b * b = a - a.tmod b := by rw [Int.mul_comm]; omega
    rw [hmm]
    unfold wI inI64 at *
    simp only [IntKind.wrap_i64]
    omega
end
end Go.Proofs.YtkbpbagjbjkpmaaDoor
