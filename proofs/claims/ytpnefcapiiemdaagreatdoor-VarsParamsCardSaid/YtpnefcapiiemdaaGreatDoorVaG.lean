/- Variables: numbers, parameters of one digit, the chapter's examples. Conditions: as each theorem says. -/
import Derived.Test.YtpnefcapiiemdaaGreatDoorVaF
import Derived.Test.YtpnefcapiiemdaaGreatDoorS
import Derived.Lib.AtoiErrMem
namespace Go.Proofs.YtpnefcapiiemdaaGreatDoor
open E Go.Lib
set_option linter.unusedVariables false
set_option linter.unusedSimpArgs false
set_option maxHeartbeats 1000000
set_option maxRecDepth 20000
abbrev digs : List UInt8 := [48, 49, 50, 51, 52, 53, 54, 55, 56, 57]
section
variable {σ σ' : AS} {X : Ce} {R : List Ck} {k : Value → AS → Prop} {v m : Nat} {u : Value} {zero n val s : Str} {ms : List Str} {i q most : Int} {S : VM} {w : Bool} {x' : VV}
theorem trim_c (hl : s.length ≤ maxLen) (hk : ∀ j, k (.string (bs (trimS s digs))) (σ.up j)) : kCall Tryz.prog 54 [.string (bs s), .string (bs digs)] σ k :=
  below_by (fun w hw => by
    have h := Any.strings_Trim_laid Tryz.lays160 (by kernel_rfl) (bs s) (bs digs) w (by unfold maxLen at hl; show s.toArray.size ≤ _; simpa using hl) (by decide) (ascii_of_all (by decide))
    have e : (bs s).data.toList = s := by simp [bs]
    have e2 : (bs digs).data.toList = digs := by simp [bs]
    rw [e, e2] at h
    exact h) hk
theorem atoi_c (hl : s.length ≤ 18) (h : Go.Lib.atoi s = some i) (hk : ∀ j, k (.tuple #[.int .i64 i, .nilIface]) (σ.up j)) : kCall Tryz.prog 55 [.string (bs s)] σ k :=
  below_by (fun w hw => by
    have e : (bs s).data.toList = s := by simp [bs]
    refine Calls.mono (Any.strconv_Atoi Tryz.lays172 (bs s) i (by show s.toArray.size ≤ _; simpa using hl) (by rw [e]; exact h) w) fun e' w' ⟨h1, t, h2⟩ => ⟨h1, ?_⟩
    rw [h2]
    exact Go.Lib.bytesWorld_below _ _ _) hk
theorem number_c (h : Hs σ X R) (hl : s.length ≤ 18) (h0 : s ≠ []) (hd : trimS s digs = []) (hn : Go.Lib.atoi s = some i) (hk : ∀ σ', Hs σ' X R → k (if most < i then .tuple #[.int .i64 0, .int .i64 3] else .tuple #[.int .i64 i, .int .i64 0]) σ') :
    kCall Tryz.prog 46 [.string (bs s), .int .i64 most] σ k := by
  refine f46 ?_
  (simp (maxSteps := 1000000) (dsimp := false) (disch := (first | omega | (simp only [okR]; done) | (simp only [sizeR] <;> omega) | fail)) only [↓preR, postR, ↓w_join, Nat.reduceEqDiff, Nat.reduceAdd, Nat.reduceSub, Nat.reduceMul, Int.reduceNeg, Nat.reduceLT, Int.reduceToNat, Nat.reduceLeDiff, Nat.sub_zero, F46, h0])
  refine trim_c (by unfold maxLen; omega) fun j => ?_
  rw [hd]
  (simp (maxSteps := 1000000) (dsimp := false) (disch := (first | omega | (simp only [okR]; done) | (simp only [sizeR] <;> omega) | fail)) only [↓preR, postR, ↓w_join, Nat.reduceEqDiff, Nat.reduceAdd, Nat.reduceSub, Nat.reduceMul, Int.reduceNeg, Nat.reduceLT, Int.reduceToNat, Nat.reduceLeDiff, Nat.sub_zero])
  refine atoi_c hl hn fun j' => ?_
  by_cases hm : most < i
  · (simp (maxSteps := 1000000) (dsimp := false) (disch := (first | omega | (simp only [okR]; done) | (simp only [sizeR] <;> omega) | fail)) only [↓preR, postR, ↓w_join, Nat.reduceEqDiff, Nat.reduceAdd, Nat.reduceSub, Nat.reduceMul, Int.reduceNeg, Nat.reduceLT, Int.reduceToNat, Nat.reduceLeDiff, Nat.sub_zero, hm])
    have := hk _ (h.up (j + j'))
    rw [if_pos hm] at this
    exact this
  · (simp (maxSteps := 1000000) (dsimp := false) (disch := (first | omega | (simp only [okR]; done) | (simp only [sizeR] <;> omega) | fail)) only [↓preR, postR, ↓w_join, Nat.reduceEqDiff, Nat.reduceAdd, Nat.reduceSub, Nat.reduceMul, Int.reduceNeg, Nat.reduceLT, Int.reduceToNat, Nat.reduceLeDiff, Nat.sub_zero, hm])
    have := hk _ (h.up (j + j'))
    rw [if_neg hm] at this
    exact this
/-- A parameter of one digit. -/
theorem param_c {d : UInt8} (h : Hs σ X (Vm v zero S :: R)) (hd : 49 ≤ d.toNat ∧ d.toNat ≤ 57) (hT : trimS [d] digs = []) (hA : Go.Lib.atoi [d] = some ((d.toNat : Int) - 48)) (hN : nameB [d] = false)
    (e1 : ([d] = [35]) = False) (e2 : ([d] = [63]) = False) (e3 : ([d] = [64]) = False) (e4 : ([d] = [42]) = False) (e5 : ([d] = [48]) = False)
    (hk : ∀ σ', Hs σ' X (Vm v zero S :: R) → k (.tuple #[.string (bs ((S.ar[d.toNat - 49]?).getD [])), .bool (S.ar[d.toNat - 49]?).isSome]) σ') :
    kCall Tryz.prog 9 [pv v, .string (bs [d])] σ k := by
  obtain ⟨av, m, h1⟩ := Vs.open h
  refine f9 ?_
  (simp (maxSteps := 1000000) (dsimp := false) (disch := (first | omega | (simp only [okR]; done) | (simp only [sizeR] <;> omega) | fail)) only [↓preR, postR, ↓w_join, Nat.reduceEqDiff, Nat.reduceAdd, Nat.reduceSub, Nat.reduceMul, Int.reduceNeg, Nat.reduceLT, Int.reduceToNat, Nat.reduceLeDiff, Nat.sub_zero, F9, e1, e2, e3, e4])
  refine name_c (by unfold maxLen; simp) ?_
  rw [hN]
  (simp (maxSteps := 1000000) (dsimp := false) (disch := (first | omega | (simp only [okR]; done) | (simp only [sizeR] <;> omega) | fail)) only [↓preR, postR, ↓w_join, Nat.reduceEqDiff, Nat.reduceAdd, Nat.reduceSub, Nat.reduceMul, Int.reduceNeg, Nat.reduceLT, Int.reduceToNat, Nat.reduceLeDiff, Nat.sub_zero])
  refine f30 ?_
  have h2 : Hs σ X (StrR av S.ar :: Cel v [.string (bs zero), av, .map (some m), .int .i64 S.st] :: Mp (κ := Str) m none (encL S.l) :: R) := h1.front 2 rfl
  obtain ⟨a, g, o, cap, rfl, hle, hcm, _⟩ := StrR.get h2
  unfold maxLen at hcm
  (simp (maxSteps := 1000000) (dsimp := false) (disch := (first | omega | (simp only [okR]; done) | (simp only [sizeR] <;> omega) | fail)) only [↓preR, postR, ↓w_join, Nat.reduceEqDiff, Nat.reduceAdd, Nat.reduceSub, Nat.reduceMul, Int.reduceNeg, Nat.reduceLT, Int.reduceToNat, Nat.reduceLeDiff, Nat.sub_zero, F30, h1.obj])
  refine number_c h1 (by simp) (by simp) hT hA fun σ1 h3 => ?_
  by_cases hb : (S.ar.length : Int) < (d.toNat : Int) - 48
  · rw [if_pos hb]
    (simp (maxSteps := 1000000) (dsimp := false) (disch := (first | omega | (simp only [okR]; done) | (simp only [sizeR] <;> omega) | fail)) only [↓preR, postR, ↓w_join, Nat.reduceEqDiff, Nat.reduceAdd, Nat.reduceSub, Nat.reduceMul, Int.reduceNeg, Nat.reduceLT, Int.reduceToNat, Nat.reduceLeDiff, Nat.sub_zero, e5])
    have : S.ar[d.toNat - 49]? = none := List.getElem?_eq_none (by omega)
    rw [this] at hk
    exact hk _ (Vs.close h3)
  · rw [if_neg hb]
    have h4 : Hs σ1 X (StrR (.slice a S.ar.length cap) S.ar :: Cel v [.string (bs zero), .slice a S.ar.length cap, .map (some m), .int .i64 S.st] :: Mp (κ := Str) m none (encL S.l) :: R) := h3.front 2 rfl
    have hi : d.toNat - 49 < S.ar.length := by omega
    obtain ⟨a', g', o', cap', e6, _, _, _, hat⟩ := StrR.get h4
    obtain ⟨rfl, hc, _⟩ := hat (d.toNat - 49) hi
    injection e6 with e7 e8 e9
    subst e7
    have hne : ¬ (d.toNat : Int) = 48 := by omega
    have e10 : ((d.toNat : Int) - 48 - 1).toNat = d.toNat - 49 := by omega
    (simp (maxSteps := 1000000) (dsimp := false) (disch := (first | omega | (simp only [okR]; done) | (simp only [sizeR] <;> omega) | fail)) only [↓preR, postR, ↓w_join, Nat.reduceEqDiff, Nat.reduceAdd, Nat.reduceSub, Nat.reduceMul, Int.reduceNeg, Nat.reduceLT, Int.reduceToNat, Nat.reduceLeDiff, Nat.sub_zero, e5, Option.getD_some, hne, h3.obj, e10, hc])
    have e11 : S.ar[d.toNat - 49]? = some S.ar[d.toNat - 49] := List.getElem?_eq_getElem hi
    rw [e11] at hk
    exact hk _ (Vs.close h3)
theorem param_e {d : UInt8} {t : Str} {b : Bool} (h : Hs σ X (Vm v zero S :: R)) (hd : 49 ≤ d.toNat ∧ d.toNat ≤ 57) (hT : trimS [d] digs = []) (hA : Go.Lib.atoi [d] = some ((d.toNat : Int) - 48)) (hN : nameB [d] = false)
    (e1 : ([d] = [35]) = False) (e2 : ([d] = [63]) = False) (e3 : ([d] = [64]) = False) (e4 : ([d] = [42]) = False) (e5 : ([d] = [48]) = False) (ht : (S.ar[d.toNat - 49]?).getD [] = t) (hb : (S.ar[d.toNat - 49]?).isSome = b)
    (hk : ∀ σ', Hs σ' X (Vm v zero S :: R) → k (.tuple #[.string (bs t), .bool b]) σ') :
    kCall Tryz.prog 9 [pv v, .string (bs [d])] σ k := param_c h hd hT hA hN e1 e2 e3 e4 e5 (by rw [ht, hb]; exact hk)
abbrev aw0 : VM := ⟨[[97], [98]], 0, []⟩
abbrev aw1 : VM := ⟨[[97], [98]], 0, [([120], ⟨[49], true, false, false⟩)]⟩
abbrev aw2 : VM := ⟨[[97], [98]], 0, [([120], ⟨[49], true, false, true⟩)]⟩
abbrev aw3 : VM := ⟨[[98]], 0, [([120], ⟨[49], true, false, true⟩)]⟩
theorem aw_s1 : setV aw0 [120] [49] = (0, aw1) := by kernel_rfl
theorem aw_r : roV aw1 [120] = (0, aw2) := by kernel_rfl
theorem aw_s2 : setV aw2 [120] [50] = (15, aw2) := by kernel_rfl
theorem aw_g : getV aw2.l [120] = ⟨[49], true, false, true⟩ := by kernel_rfl
theorem aw_h3 : shiftV aw2 3 = (1, aw2) := by kernel_rfl
theorem aw_h1 : shiftV aw2 1 = (0, aw3) := by kernel_rfl
theorem vset_e {e : Int} {S' : VM} (h : Hs σ X (Vm v zero S :: R)) (hn : n.length ≤ maxLen) (he : setV S n val = (e, S')) (hk : ∀ σ', Hs σ' X (Vm v zero S' :: R) → k (.int .i64 e) σ') :
    kCall Tryz.prog 12 [pv v, .string (bs n), .string (bs val)] σ k := set_c h hn (by rw [he]; exact hk)
theorem vro_e {e : Int} {S' : VM} (h : Hs σ X (Vm v zero S :: R)) (hn : n.length ≤ maxLen) (he : roV S n = (e, S')) (hk : ∀ σ', Hs σ' X (Vm v zero S' :: R) → k (.int .i64 e) σ') :
    kCall Tryz.prog 13 [pv v, .string (bs n)] σ k := ro_c h hn (by rw [he]; exact hk)
theorem vshift_e {e : Int} {S' : VM} (h : Hs σ X (Vm v zero S :: R)) (hi : inI64 i) (he : shiftV S i = (e, S')) (hk : ∀ σ', Hs σ' X (Vm v zero S' :: R) → k (.int .i64 e) σ') :
    kCall Tryz.prog 15 [pv v, .int .i64 i] σ k := shift_c h hi (by rw [he]; exact hk)
theorem awake_c (h : Hs σ X R) (hk : ∀ σ', Hs σ' X R → k (.bool true) σ') : kCall Tryz.prog 5 [] σ k := by
  refine f5 ?_
  have h1 := h.new (cs := [.string (bs [97]), .string (bs [98])])
  have ht : TxS (σ.new (.cells [.string (bs [97]), .string (bs [98])])) (.slice (some ⟨σ.n, 0, none⟩) 2 2) [[97], [98]] := by
    refine ⟨_, _, rfl, .inr ⟨σ.n, 0, rfl, fun i hi => ?_⟩⟩
    rw [ld_ob, h1.obj]
    match i, hi with
    | 0, _ => exact ⟨rfl, by show 1 ≤ maxLen; decide⟩
    | 1, _ => exact ⟨rfl, by show 1 ≤ maxLen; decide⟩
  (simp (maxSteps := 1000000) (dsimp := false) (disch := (first | omega | (simp only [okR]; done) | (simp only [sizeR] <;> omega) | fail)) only [↓preR, postR, ↓w_join, Nat.reduceEqDiff, Nat.reduceAdd, Nat.reduceSub, Nat.reduceMul, Int.reduceNeg, Nat.reduceLT, Int.reduceToNat, Nat.reduceLeDiff, Nat.sub_zero, F5])
  refine vnew_c h1 ht (by decide) fun v σ1 h2 => ?_
  (try simp (maxSteps := 1000000) (dsimp := false) (disch := (first | omega | (simp only [okR]; done) | (simp only [sizeR] <;> omega) | fail)) only [↓preR, postR, ↓w_join, Nat.reduceEqDiff, Nat.reduceAdd, Nat.reduceSub, Nat.reduceMul, Int.reduceNeg, Nat.reduceLT, Int.reduceToNat, Nat.reduceLeDiff, Nat.sub_zero])
  refine param_e (S := aw0) (d := 49) (t := [97]) (b := true) h2 (by decide) (by kernel_rfl) (by kernel_rfl) (by kernel_rfl) (by decide) (by decide) (by decide) (by decide) (by decide) (by kernel_rfl) (by kernel_rfl) fun σ2 h3 => ?_
  (simp (maxSteps := 1000000) (dsimp := false) (disch := (first | omega | (simp only [okR]; done) | (simp only [sizeR] <;> omega) | fail)) only [↓preR, postR, ↓w_join, Nat.reduceEqDiff, Nat.reduceAdd, Nat.reduceSub, Nat.reduceMul, Int.reduceNeg, Nat.reduceLT, Int.reduceToNat, Nat.reduceLeDiff, Nat.sub_zero])
  refine param_e (S := aw0) (d := 51) (t := []) (b := false) h3 (by decide) (by kernel_rfl) (by kernel_rfl) (by kernel_rfl) (by decide) (by decide) (by decide) (by decide) (by decide) (by kernel_rfl) (by kernel_rfl) fun σ3 h4 => ?_
  (try simp (maxSteps := 1000000) (dsimp := false) (disch := (first | omega | (simp only [okR]; done) | (simp only [sizeR] <;> omega) | fail)) only [↓preR, postR, ↓w_join, Nat.reduceEqDiff, Nat.reduceAdd, Nat.reduceSub, Nat.reduceMul, Int.reduceNeg, Nat.reduceLT, Int.reduceToNat, Nat.reduceLeDiff, Nat.sub_zero])
  refine vset_e h4 (by decide) aw_s1 fun σ4 h5 => ?_
  (try simp (maxSteps := 1000000) (dsimp := false) (disch := (first | omega | (simp only [okR]; done) | (simp only [sizeR] <;> omega) | fail)) only [↓preR, postR, ↓w_join, Nat.reduceEqDiff, Nat.reduceAdd, Nat.reduceSub, Nat.reduceMul, Int.reduceNeg, Nat.reduceLT, Int.reduceToNat, Nat.reduceLeDiff, Nat.sub_zero])
  refine vro_e h5 (by decide) aw_r fun σ5 h6 => ?_
  (try simp (maxSteps := 1000000) (dsimp := false) (disch := (first | omega | (simp only [okR]; done) | (simp only [sizeR] <;> omega) | fail)) only [↓preR, postR, ↓w_join, Nat.reduceEqDiff, Nat.reduceAdd, Nat.reduceSub, Nat.reduceMul, Int.reduceNeg, Nat.reduceLT, Int.reduceToNat, Nat.reduceLeDiff, Nat.sub_zero])
  refine vset_e h6 (by decide) aw_s2 fun σ6 h7 => ?_
  (try simp (maxSteps := 1000000) (dsimp := false) (disch := (first | omega | (simp only [okR]; done) | (simp only [sizeR] <;> omega) | fail)) only [↓preR, postR, ↓w_join, Nat.reduceEqDiff, Nat.reduceAdd, Nat.reduceSub, Nat.reduceMul, Int.reduceNeg, Nat.reduceLT, Int.reduceToNat, Nat.reduceLeDiff, Nat.sub_zero])
  refine get_c h7 fun σ7 h8 => ?_
  rw [aw_g]
  (try simp (maxSteps := 1000000) (dsimp := false) (disch := (first | omega | (simp only [okR]; done) | (simp only [sizeR] <;> omega) | fail)) only [↓preR, postR, ↓w_join, Nat.reduceEqDiff, Nat.reduceAdd, Nat.reduceSub, Nat.reduceMul, Int.reduceNeg, Nat.reduceLT, Int.reduceToNat, Nat.reduceLeDiff, Nat.sub_zero])
  refine vshift_e h8 ⟨by decide, by decide⟩ aw_h3 fun σ8 h9 => ?_
  (try simp (maxSteps := 1000000) (dsimp := false) (disch := (first | omega | (simp only [okR]; done) | (simp only [sizeR] <;> omega) | fail)) only [↓preR, postR, ↓w_join, Nat.reduceEqDiff, Nat.reduceAdd, Nat.reduceSub, Nat.reduceMul, Int.reduceNeg, Nat.reduceLT, Int.reduceToNat, Nat.reduceLeDiff, Nat.sub_zero])
  refine vshift_e h9 ⟨by decide, by decide⟩ aw_h1 fun σ9 h10 => ?_
  (try simp (maxSteps := 1000000) (dsimp := false) (disch := (first | omega | (simp only [okR]; done) | (simp only [sizeR] <;> omega) | fail)) only [↓preR, postR, ↓w_join, Nat.reduceEqDiff, Nat.reduceAdd, Nat.reduceSub, Nat.reduceMul, Int.reduceNeg, Nat.reduceLT, Int.reduceToNat, Nat.reduceLeDiff, Nat.sub_zero])
  refine args_c h10 (by decide) fun v' σ10 h11 => ?_
  obtain ⟨a, g, o, cap, rfl, _, _, _, hat⟩ := StrR.get h11
  obtain ⟨rfl, hc, _⟩ := hat 0 (by decide)
  have e98 : ([[98]] : List Str)[0] = [98] := rfl
  rw [e98, Nat.add_zero] at hc
  (try simp (maxSteps := 1000000) (dsimp := false) (disch := (first | omega | (simp only [okR]; done) | (simp only [sizeR] <;> omega) | fail)) only [↓preR, postR, ↓w_join, Nat.reduceEqDiff, Nat.reduceAdd, Nat.reduceSub, Nat.reduceMul, Int.reduceNeg, Nat.reduceLT, Int.reduceToNat, Nat.reduceLeDiff, Nat.sub_zero, hc])
  exact hk _ h11.drop.drop.drop
end
end Go.Proofs.YtpnefcapiiemdaaGreatDoor
