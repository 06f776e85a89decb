/- Variables: the calls of the object. Conditions: as each theorem says. -/
import Derived.Test.YtpnefcapiiemdaaGreatDoorVaB
namespace Go.Proofs.YtpnefcapiiemdaaGreatDoor
open E Go.Lib
set_option linter.unusedVariables false
set_option linter.unusedSimpArgs false
set_option maxHeartbeats 1000000
set_option maxRecDepth 20000
abbrev pv (q : Nat) : Value := .pointer (some ⟨q, 0, none⟩)
abbrev VsL (v : Nat) (zero : Str) (av : Value) (ar : List Str) (m : Nat) (st : Int) (l : VL) (R : List Ck) : List Ck :=
  Cel v [.string (bs zero), av, .map (some m), .int .i64 st] :: Mp (κ := Str) m none (encL l) :: StrR av ar :: R
def Vs (v : Nat) (zero : Str) (ar : List Str) (st : Int) (l : VL) : Ck := Exs (fun _ : Value × Nat => True) fun x => VsL v zero x.1 ar x.2 st l []
section
variable {σ σ' : AS} {X : Ce} {R : List Ck} {k : Value → AS → Prop} {v m : Nat} {av u : Value} {zero n val : Str} {ar ms : List Str} {st : Int} {l : VL} {x x' : VV} {w : Bool}
theorem Vs.open (h : Hs σ X (Vs v zero ar st l :: R)) : ∃ av m, Hs σ X (VsL v zero av ar m st l R) := by
  obtain ⟨x, _, h1⟩ := h.opened
  exact ⟨_, _, h1⟩
theorem Vs.close (h : Hs σ X (VsL v zero av ar m st l R)) : Hs σ X (Vs v zero ar st l :: R) :=
  Hs.closed (p := fun _ : Value × Nat => True) ⟨av, m⟩ trivial h
theorem zero_var (w : World) : (zeroValue 62).run Tryz.prog w = .ok (encV [] z0) w := by kernel_rfl
theorem vlk_by (h : Hs σ X (Mp (κ := Str) m none (encL l) :: R)) (hK : k (encV (nmV l n) (getV l n)) σ) : kGen Tryz.prog (.lk 48 false) [.map (some m), .string (bs n)] σ k := by
  refine lk_by (κ := Str) (k := n) h Tryz.underlying48 Tryz.underlying9 zero_var ?_
  have e : (@List.lookup Str Value (@instBEqOfDecidableEq Str inferInstance) n (encL l)).getD (encV [] z0) = encV (nmV l n) (getV l n) := by
    rw [lookup_encL]
    unfold nmV getV
    cases lkV l n <;> rfl
  rw [← e] at hK
  exact hK
theorem vnew_c (h : Hs σ X R) (hu : TxS σ u ms) (hlen : ms.length ≤ 1000000) (hk : ∀ v σ', Hs σ' X (Vs v zero ms 0 [] :: R) → k (pv v) σ') : kCall Tryz.prog 6 [.string (bs zero), u] σ k := by
  refine f6 ?_
  (try simp (maxSteps := 1000000) (dsimp := false) (disch := (first | omega | (simp only [okR]; done) | (simp only [sizeR] <;> omega) | fail)) only [↓preR, postR, ↓w_join, Nat.reduceEqDiff, Nat.reduceAdd, Nat.reduceSub, Nat.reduceMul, Int.reduceNeg, Nat.reduceLT, Int.reduceToNat, Nat.reduceLeDiff, Nat.sub_zero, F6])
  refine clone_c h hu hlen fun v' σ1 h1 => ?_
  have h2 := (h1.newMap (κ := Str)).new (cs := [.string (bs zero), v', .map (some σ1.n), .int .i64 0])
  obtain ⟨a, g, o, cap, rfl, _⟩ := StrR.get h1
  (simp (maxSteps := 1000000) (dsimp := false) (disch := (first | omega | (simp only [okR]; done) | (simp only [sizeR] <;> omega) | fail)) only [↓preR, postR, ↓w_join, Nat.reduceEqDiff, Nat.reduceAdd, Nat.reduceSub, Nat.reduceMul, Int.reduceNeg, Nat.reduceLT, Int.reduceToNat, Nat.reduceLeDiff, Nat.sub_zero])
  exact hk _ _ (Vs.close (h2.swap.swap))
theorem get_c (h : Hs σ X (Vs v zero ar st l :: R)) (hk : ∀ σ', Hs σ' X (Vs v zero ar st l :: R) → k (.tuple #[.string (bs (getV l n).val), .bool (getV l n).set]) σ') : kCall Tryz.prog 14 [pv v, .string (bs n)] σ k := by
  obtain ⟨av, m, h1⟩ := Vs.open h
  refine f14 ?_
  (simp (maxSteps := 1000000) (dsimp := false) (disch := (first | omega | (simp only [okR]; done) | (simp only [sizeR] <;> omega) | fail)) only [↓preR, postR, ↓w_join, Nat.reduceEqDiff, Nat.reduceAdd, Nat.reduceSub, Nat.reduceMul, Int.reduceNeg, Nat.reduceLT, Int.reduceToNat, Nat.reduceLeDiff, Nat.sub_zero, F14, h1.obj])
  refine vlk_by h1.drop ?_
  (simp (maxSteps := 1000000) (dsimp := false) (disch := (first | omega | (simp only [okR]; done) | (simp only [sizeR] <;> omega) | fail)) only [↓preR, postR, ↓w_join, Nat.reduceEqDiff, Nat.reduceAdd, Nat.reduceSub, Nat.reduceMul, Int.reduceNeg, Nat.reduceLT, Int.reduceToNat, Nat.reduceLeDiff, Nat.sub_zero])
  exact hk _ (h.gar (((Chg.refl _ _).new _).put (.inr (Nat.le_refl _)) _))
theorem del_insM (L : List (Str × Value)) (n : Str) (u : Value) : del (ins L n u) n = del L n := by
  unfold ins del
  split
  · rename_i h
    clear h
    induction L with
    | nil => rfl
    | cons p l ih =>
      rw [List.map_cons, List.filter_cons, List.filter_cons, ih]
      by_cases hp : p.1 = n
      · simp [hp]
      · simp [hp]
  · simp
/-- What turns a variable: hw, by the function value how. -/
theorem turn_c {how : Value} (h : Hs σ X (Vs v zero ar st l :: R)) (hn : n.length ≤ maxLen)
    (hhow : ∀ (p : Nat) (σ1 : AS) (A B C : Ck) (k1 : Value → AS → Prop), Hs σ1 X (Cel p (celV n x) :: A :: B :: C :: R) → x = getV l n → (∀ v1 σ2 n', ((x'.set || x'.exp || x'.ro) = true → n' = n) → Hs σ2 X (Cel p (celV n' x') :: A :: B :: C :: R) → k1 v1 σ2) → kCallv Tryz.prog how [pv p] σ1 k1)
    (hx : x = getV l n)
    (h16 : nameB n = false → ∀ σ', Hs σ' X (Vs v zero ar st l :: R) → k (.int .i64 16) σ')
    (h15 : nameB n = true → w = true → x.ro = true → ∀ σ', Hs σ' X (Vs v zero ar st l :: R) → k (.int .i64 15) σ')
    (hk : nameB n = true → (w = true → x.ro = false) → ∀ σ', Hs σ' X (Vs v zero ar st (turnV l n x') :: R) → k (.int .i64 0) σ') :
    kCall Tryz.prog 35 [pv v, .string (bs n), .bool w, how] σ k := by
  obtain ⟨av, m, h1⟩ := Vs.open h
  refine f35 ?_
  (try simp (maxSteps := 1000000) (dsimp := false) (disch := (first | omega | (simp only [okR]; done) | (simp only [sizeR] <;> omega) | fail)) only [↓preR, postR, ↓w_stop, Nat.reduceEqDiff, Nat.reduceAdd, Nat.reduceSub, Nat.reduceMul, Int.reduceNeg, Nat.reduceLT, Int.reduceToNat, Nat.reduceLeDiff, Nat.sub_zero, F35])
  refine join_by fun J hJ => ?_
  (try simp (maxSteps := 1000000) (dsimp := false) (disch := (first | omega | (simp only [okR]; done) | (simp only [sizeR] <;> omega) | fail)) only [↓preR, postR, ↓w_stop, Nat.reduceEqDiff, Nat.reduceAdd, Nat.reduceSub, Nat.reduceMul, Int.reduceNeg, Nat.reduceLT, Int.reduceToNat, Nat.reduceLeDiff, Nat.sub_zero])
  refine name_c hn ?_
  cases hN : nameB n with
  | false =>
    (try simp (maxSteps := 1000000) (dsimp := false) (disch := (first | omega | (simp only [okR]; done) | (simp only [sizeR] <;> omega) | fail)) only [↓preR, postR, ↓w_join, Nat.reduceEqDiff, Nat.reduceAdd, Nat.reduceSub, Nat.reduceMul, Int.reduceNeg, Nat.reduceLT, Int.reduceToNat, Nat.reduceLeDiff, Nat.sub_zero])
    exact h16 hN _ h
  | true =>
    have tail : (w = true → x.ro = false) → J [] σ := by
      intro hw
      refine hJ _ _ ?_
      clear hJ
      (try simp (maxSteps := 1000000) (dsimp := false) (disch := (first | omega | (simp only [okR]; done) | (simp only [sizeR] <;> omega) | fail)) only [↓preR, postR, ↓w_stop, Nat.reduceEqDiff, Nat.reduceAdd, Nat.reduceSub, Nat.reduceMul, Int.reduceNeg, Nat.reduceLT, Int.reduceToNat, Nat.reduceLeDiff, Nat.sub_zero, h1.obj])
      refine vlk_by h1.drop ?_
      rw [← hx]
      have g1 := h1.new (cs := celV [] z0)
      (simp (maxSteps := 1000000) (dsimp := false) (disch := (first | omega | (simp only [okR]; done) | (simp only [sizeR] <;> omega) | fail)) only [↓preR, postR, ↓w_join, Nat.reduceEqDiff, Nat.reduceAdd, Nat.reduceSub, Nat.reduceMul, Int.reduceNeg, Nat.reduceLT, Int.reduceToNat, Nat.reduceLeDiff, Nat.sub_zero])
      refine hhow _ _ _ _ _ _ (g1.put (cs' := celV n x)) hx fun v1 σ2 n' hn' g4 => ?_
      (simp (maxSteps := 1000000) (dsimp := false) (disch := (first | omega | (simp only [okR]; done) | (simp only [sizeR] <;> omega) | fail)) only [↓preR, postR, ↓w_join, Nat.reduceEqDiff, Nat.reduceAdd, Nat.reduceSub, Nat.reduceMul, Int.reduceNeg, Nat.reduceLT, Int.reduceToNat, Nat.reduceLeDiff, Nat.sub_zero, g4.obj, g4.obj1])
      refine mup_by (κ := Str) (k := n) (g4.front 2 rfl) Tryz.underlying48 Tryz.underlying9 fun σ3 g5 => ?_
      by_cases hd : (x'.set || x'.exp || x'.ro) = true
      · rw [hn' hd] at g5
        rw [ins_encL] at g5
        have e : turnV l n x' = insV l n x' := by unfold turnV; rw [if_pos hd]
        have g6 : Hs σ3 X (VsL v zero av ar m st (insV l n x') R) := Hs.swap (Hs.drop (g5.front 1 rfl))
        have hk' := hk hN hw σ3 (by rw [e]; exact Vs.close g6)
        cases h5 : x'.set
        · cases h6 : x'.exp
          · cases h7 : x'.ro
            · rw [h5, h6, h7] at hd; cases hd
            · (try simp (maxSteps := 1000000) (dsimp := false) (disch := (first | omega | (simp only [okR]; done) | (simp only [sizeR] <;> omega) | fail)) only [↓preR, postR, ↓w_join, Nat.reduceEqDiff, Nat.reduceAdd, Nat.reduceSub, Nat.reduceMul, Int.reduceNeg, Nat.reduceLT, Int.reduceToNat, Nat.reduceLeDiff, Nat.sub_zero, g5.obj1, h5, h6, h7])
              exact hk'
          · (try simp (maxSteps := 1000000) (dsimp := false) (disch := (first | omega | (simp only [okR]; done) | (simp only [sizeR] <;> omega) | fail)) only [↓preR, postR, ↓w_join, Nat.reduceEqDiff, Nat.reduceAdd, Nat.reduceSub, Nat.reduceMul, Int.reduceNeg, Nat.reduceLT, Int.reduceToNat, Nat.reduceLeDiff, Nat.sub_zero, g5.obj1, h5, h6])
            exact hk'
        · (try simp (maxSteps := 1000000) (dsimp := false) (disch := (first | omega | (simp only [okR]; done) | (simp only [sizeR] <;> omega) | fail)) only [↓preR, postR, ↓w_join, Nat.reduceEqDiff, Nat.reduceAdd, Nat.reduceSub, Nat.reduceMul, Int.reduceNeg, Nat.reduceLT, Int.reduceToNat, Nat.reduceLeDiff, Nat.sub_zero, g5.obj1, h5])
          exact hk'
      · have h567 : x'.set = false ∧ x'.exp = false ∧ x'.ro = false := by
          simp only [Bool.or_eq_true, not_or, Bool.not_eq_true] at hd
          exact ⟨hd.1.1, hd.1.2, hd.2⟩
        obtain ⟨h5, h6, h7⟩ := h567
        have e : turnV l n x' = delV l n := by unfold turnV; rw [if_neg hd]
        (simp (maxSteps := 1000000) (dsimp := false) (disch := (first | omega | (simp only [okR]; done) | (simp only [sizeR] <;> omega) | fail)) only [↓preR, postR, ↓w_join, Nat.reduceEqDiff, Nat.reduceAdd, Nat.reduceSub, Nat.reduceMul, Int.reduceNeg, Nat.reduceLT, Int.reduceToNat, Nat.reduceLeDiff, Nat.sub_zero, g5.obj1, g5.obj2, h5, h6, h7])
        refine del_by (κ := Str) (k := n) g5 Tryz.underlying48 Tryz.underlying9 fun σ4 g6 => ?_
        (try simp (maxSteps := 1000000) (dsimp := false) (disch := (first | omega | (simp only [okR]; done) | (simp only [sizeR] <;> omega) | fail)) only [↓preR, postR, ↓w_join, Nat.reduceEqDiff, Nat.reduceAdd, Nat.reduceSub, Nat.reduceMul, Int.reduceNeg, Nat.reduceLT, Int.reduceToNat, Nat.reduceLeDiff, Nat.sub_zero])
        rw [del_insM, del_encL] at g6
        have g7 : Hs σ4 X (VsL v zero av ar m st (delV l n) R) := Hs.swap (Hs.drop (g6.front 1 rfl))
        exact hk hN hw σ4 (by rw [e]; exact Vs.close g7)
    cases w with
    | false =>
      (try simp (maxSteps := 1000000) (dsimp := false) (disch := (first | omega | (simp only [okR]; done) | (simp only [sizeR] <;> omega) | fail)) only [↓preR, postR, ↓w_join, Nat.reduceEqDiff, Nat.reduceAdd, Nat.reduceSub, Nat.reduceMul, Int.reduceNeg, Nat.reduceLT, Int.reduceToNat, Nat.reduceLeDiff, Nat.sub_zero])
      exact tail (fun h => by cases h)
    | true =>
      (simp (maxSteps := 1000000) (dsimp := false) (disch := (first | omega | (simp only [okR]; done) | (simp only [sizeR] <;> omega) | fail)) only [↓preR, postR, ↓w_join, Nat.reduceEqDiff, Nat.reduceAdd, Nat.reduceSub, Nat.reduceMul, Int.reduceNeg, Nat.reduceLT, Int.reduceToNat, Nat.reduceLeDiff, Nat.sub_zero, h1.obj])
      refine vlk_by h1.drop ?_
      rw [← hx]
      (try simp (maxSteps := 1000000) (dsimp := false) (disch := (first | omega | (simp only [okR]; done) | (simp only [sizeR] <;> omega) | fail)) only [↓preR, postR, ↓w_join, Nat.reduceEqDiff, Nat.reduceAdd, Nat.reduceSub, Nat.reduceMul, Int.reduceNeg, Nat.reduceLT, Int.reduceToNat, Nat.reduceLeDiff, Nat.sub_zero])
      cases hr : x.ro with
      | true =>
        (try simp (maxSteps := 1000000) (dsimp := false) (disch := (first | omega | (simp only [okR]; done) | (simp only [sizeR] <;> omega) | fail)) only [↓preR, postR, ↓w_join, Nat.reduceEqDiff, Nat.reduceAdd, Nat.reduceSub, Nat.reduceMul, Int.reduceNeg, Nat.reduceLT, Int.reduceToNat, Nat.reduceLeDiff, Nat.sub_zero])
        exact h15 hN rfl hr _ h
      | false =>
        (try simp (maxSteps := 1000000) (dsimp := false) (disch := (first | omega | (simp only [okR]; done) | (simp only [sizeR] <;> omega) | fail)) only [↓preR, postR, ↓w_join, Nat.reduceEqDiff, Nat.reduceAdd, Nat.reduceSub, Nat.reduceMul, Int.reduceNeg, Nat.reduceLT, Int.reduceToNat, Nat.reduceLeDiff, Nat.sub_zero])
        exact tail (fun _ => hr)
end
end Go.Proofs.YtpnefcapiiemdaaGreatDoor
namespace Go.Proofs.YtpnefcapiiemdaaGreatDoor
open E Go.Lib
set_option linter.unusedVariables false
set_option linter.unusedSimpArgs false
set_option maxHeartbeats 1000000
set_option maxRecDepth 20000
structure VM where
  ar : List Str
  st : Int
  l : VL
abbrev OpV := Int × Str × Str × Int × List Str
def kd (k : Int) : Int := (k.tmod 8 + 8) % 8
def turnE (S : VM) (n : Str) (w : Bool) (x' : VV) : Int × VM := if nameB n = false then (16, S) else if (w && (getV S.l n).ro) = true then (15, S) else (0, ⟨S.ar, S.st, turnV S.l n x'⟩)
def setV (S : VM) (n val : Str) : Int × VM := turnE S n true ⟨val, true, (getV S.l n).exp, (getV S.l n).ro⟩
def unsetV (S : VM) (n : Str) : Int × VM := turnE S n true z0
def exportV (S : VM) (n : Str) : Int × VM := turnE S n false ⟨(getV S.l n).val, (getV S.l n).set, true, (getV S.l n).ro⟩
def roV (S : VM) (n : Str) : Int × VM := turnE S n false ⟨(getV S.l n).val, (getV S.l n).set, (getV S.l n).exp, true⟩
def shiftV (S : VM) (n : Int) : Int × VM := if n < 0 ∨ (S.ar.length : Int) < n then (1, S) else (0, ⟨S.ar.drop n.toNat, S.st, S.l⟩)
def doV (o : OpV) (S : VM) : Int × VM :=
  if kd o.1 = 2 then unsetV S o.2.1
  else if kd o.1 = 3 then exportV S o.2.1
  else if kd o.1 = 4 then roV S o.2.1
  else if kd o.1 = 5 then (0, ⟨o.2.2.2.2, S.st, S.l⟩)
  else if kd o.1 = 6 then shiftV S o.2.2.2.1
  else if kd o.1 = 7 then (0, ⟨S.ar, o.2.2.2.1, S.l⟩)
  else setV S o.2.1 o.2.2.1
abbrev Vm (v : Nat) (zero : Str) (S : VM) : Ck := Vs v zero S.ar S.st S.l
section
variable {σ σ' : AS} {X : Ce} {R : List Ck} {k : Value → AS → Prop} {v m : Nat} {u : Value} {zero n val : Str} {ms : List Str} {i : Int} {S : VM} {w : Bool} {x' : VV}
theorem turnE_c {how : Value} (h : Hs σ X (Vm v zero S :: R)) (hn : n.length ≤ maxLen)
    (hhow : ∀ (p : Nat) (σ1 : AS) (A B C : Ck) (k1 : Value → AS → Prop), Hs σ1 X (Cel p (celV n (getV S.l n)) :: A :: B :: C :: R) → (∀ v1 σ2 n', ((x'.set || x'.exp || x'.ro) = true → n' = n) → Hs σ2 X (Cel p (celV n' x') :: A :: B :: C :: R) → k1 v1 σ2) → kCallv Tryz.prog how [pv p] σ1 k1)
    (hk : ∀ σ', Hs σ' X (Vm v zero (turnE S n w x').2 :: R) → k (.int .i64 (turnE S n w x').1) σ') :
    kCall Tryz.prog 35 [pv v, .string (bs n), .bool w, how] σ k := by
  refine turn_c (x := getV S.l n) (x' := x') h hn (fun p σ1 A B C k1 h1 _ h2 => hhow p σ1 A B C k1 h1 h2) rfl (fun h16 σ' h1 => ?_) (fun hN hw hr σ' h1 => ?_) (fun hN hw σ' h1 => ?_)
  · have e : turnE S n w x' = (16, S) := by unfold turnE; rw [if_pos h16]
    rw [e] at hk
    exact hk _ h1
  · have e : turnE S n w x' = (15, S) := by unfold turnE; rw [if_neg (by rw [hN]; decide), if_pos (by rw [hw, hr]; rfl)]
    rw [e] at hk
    exact hk _ h1
  · have e : turnE S n w x' = (0, ⟨S.ar, S.st, turnV S.l n x'⟩) := by
      unfold turnE
      rw [if_neg (by rw [hN]; decide), if_neg]
      cases w with
      | false => simp
      | true => rw [hw rfl]; simp
    rw [e] at hk
    exact hk _ h1
theorem set_c (h : Hs σ X (Vm v zero S :: R)) (hn : n.length ≤ maxLen) (hk : ∀ σ', Hs σ' X (Vm v zero (setV S n val).2 :: R) → k (.int .i64 (setV S n val).1) σ') :
    kCall Tryz.prog 12 [pv v, .string (bs n), .string (bs val)] σ k := by
  refine f12 ?_
  (simp (maxSteps := 1000000) (dsimp := false) (disch := (first | omega | (simp only [okR]; done) | (simp only [sizeR] <;> omega) | fail)) only [↓preR, postR, ↓w_join, Nat.reduceEqDiff, Nat.reduceAdd, Nat.reduceSub, Nat.reduceMul, Int.reduceNeg, Nat.reduceLT, Int.reduceToNat, Nat.reduceLeDiff, Nat.sub_zero, F12])
  have h1 := h.new (cs := [.string (bs val)])
  refine turnE_c (x' := ⟨val, true, (getV S.l n).exp, (getV S.l n).ro⟩) (R := Cel σ.n [.string (bs val)] :: R) h1.swap hn (fun p σ1 A B C k1 h2 h3 => ⟨k36_ok, ?_⟩) fun σ2 h2 => ?_
  · refine f36 ?_
    have h4 : Hs σ1 X (Cel σ.n [.string (bs val)] :: Cel p (celV n (getV S.l n)) :: A :: B :: C :: R) := h2.front 4 rfl
    have h5 := h2.put (cs' := celV n ⟨val, (getV S.l n).set, (getV S.l n).exp, (getV S.l n).ro⟩)
    (simp (maxSteps := 1000000) (dsimp := false) (disch := (first | omega | (simp only [okR]; done) | (simp only [sizeR] <;> omega) | fail)) only [↓preR, postR, ↓w_join, Nat.reduceEqDiff, Nat.reduceAdd, Nat.reduceSub, Nat.reduceMul, Int.reduceNeg, Nat.reduceLT, Int.reduceToNat, Nat.reduceLeDiff, Nat.sub_zero, F36, h4.obj, h4.obj1, h5.obj])
    refine h3 _ _ n (fun _ => rfl) ?_
    exact h2.put
  · (try simp (maxSteps := 1000000) (dsimp := false) (disch := (first | omega | (simp only [okR]; done) | (simp only [sizeR] <;> omega) | fail)) only [↓preR, postR, ↓w_join, Nat.reduceEqDiff, Nat.reduceAdd, Nat.reduceSub, Nat.reduceMul, Int.reduceNeg, Nat.reduceLT, Int.reduceToNat, Nat.reduceLeDiff, Nat.sub_zero])
    exact hk _ (h2.swap.drop)
theorem unset_c (h : Hs σ X (Vm v zero S :: R)) (hn : n.length ≤ maxLen) (hk : ∀ σ', Hs σ' X (Vm v zero (unsetV S n).2 :: R) → k (.int .i64 (unsetV S n).1) σ') :
    kCall Tryz.prog 19 [pv v, .string (bs n)] σ k := by
  refine f19 ?_
  (try simp (maxSteps := 1000000) (dsimp := false) (disch := (first | omega | (simp only [okR]; done) | (simp only [sizeR] <;> omega) | fail)) only [↓preR, postR, ↓w_join, Nat.reduceEqDiff, Nat.reduceAdd, Nat.reduceSub, Nat.reduceMul, Int.reduceNeg, Nat.reduceLT, Int.reduceToNat, Nat.reduceLeDiff, Nat.sub_zero, F19])
  refine turnE_c (x' := z0) h hn (fun p σ1 A B C k1 h2 h3 => ⟨k39_ok, ?_⟩) fun σ2 h2 => ?_
  · refine f39 ?_
    (simp (maxSteps := 1000000) (dsimp := false) (disch := (first | omega | (simp only [okR]; done) | (simp only [sizeR] <;> omega) | fail)) only [↓preR, postR, ↓w_join, Nat.reduceEqDiff, Nat.reduceAdd, Nat.reduceSub, Nat.reduceMul, Int.reduceNeg, Nat.reduceLT, Int.reduceToNat, Nat.reduceLeDiff, Nat.sub_zero, F39, h2.obj])
    exact h3 _ _ [] (fun h => by cases h) h2.put
  · (try simp (maxSteps := 1000000) (dsimp := false) (disch := (first | omega | (simp only [okR]; done) | (simp only [sizeR] <;> omega) | fail)) only [↓preR, postR, ↓w_join, Nat.reduceEqDiff, Nat.reduceAdd, Nat.reduceSub, Nat.reduceMul, Int.reduceNeg, Nat.reduceLT, Int.reduceToNat, Nat.reduceLeDiff, Nat.sub_zero])
    exact hk _ h2
theorem export_c (h : Hs σ X (Vm v zero S :: R)) (hn : n.length ≤ maxLen) (hk : ∀ σ', Hs σ' X (Vm v zero (exportV S n).2 :: R) → k (.int .i64 (exportV S n).1) σ') :
    kCall Tryz.prog 20 [pv v, .string (bs n)] σ k := by
  refine f20 ?_
  (try simp (maxSteps := 1000000) (dsimp := false) (disch := (first | omega | (simp only [okR]; done) | (simp only [sizeR] <;> omega) | fail)) only [↓preR, postR, ↓w_join, Nat.reduceEqDiff, Nat.reduceAdd, Nat.reduceSub, Nat.reduceMul, Int.reduceNeg, Nat.reduceLT, Int.reduceToNat, Nat.reduceLeDiff, Nat.sub_zero, F20])
  refine turnE_c (x' := ⟨(getV S.l n).val, (getV S.l n).set, true, (getV S.l n).ro⟩) h hn (fun p σ1 A B C k1 h2 h3 => ⟨k40_ok, ?_⟩) fun σ2 h2 => ?_
  · refine f40 ?_
    (simp (maxSteps := 1000000) (dsimp := false) (disch := (first | omega | (simp only [okR]; done) | (simp only [sizeR] <;> omega) | fail)) only [↓preR, postR, ↓w_join, Nat.reduceEqDiff, Nat.reduceAdd, Nat.reduceSub, Nat.reduceMul, Int.reduceNeg, Nat.reduceLT, Int.reduceToNat, Nat.reduceLeDiff, Nat.sub_zero, F40, h2.obj])
    exact h3 _ _ n (fun _ => rfl) h2.put
  · (try simp (maxSteps := 1000000) (dsimp := false) (disch := (first | omega | (simp only [okR]; done) | (simp only [sizeR] <;> omega) | fail)) only [↓preR, postR, ↓w_join, Nat.reduceEqDiff, Nat.reduceAdd, Nat.reduceSub, Nat.reduceMul, Int.reduceNeg, Nat.reduceLT, Int.reduceToNat, Nat.reduceLeDiff, Nat.sub_zero])
    exact hk _ h2
theorem ro_c (h : Hs σ X (Vm v zero S :: R)) (hn : n.length ≤ maxLen) (hk : ∀ σ', Hs σ' X (Vm v zero (roV S n).2 :: R) → k (.int .i64 (roV S n).1) σ') :
    kCall Tryz.prog 13 [pv v, .string (bs n)] σ k := by
  refine f13 ?_
  (try simp (maxSteps := 1000000) (dsimp := false) (disch := (first | omega | (simp only [okR]; done) | (simp only [sizeR] <;> omega) | fail)) only [↓preR, postR, ↓w_join, Nat.reduceEqDiff, Nat.reduceAdd, Nat.reduceSub, Nat.reduceMul, Int.reduceNeg, Nat.reduceLT, Int.reduceToNat, Nat.reduceLeDiff, Nat.sub_zero, F13])
  refine turnE_c (x' := ⟨(getV S.l n).val, (getV S.l n).set, (getV S.l n).exp, true⟩) h hn (fun p σ1 A B C k1 h2 h3 => ⟨k37_ok, ?_⟩) fun σ2 h2 => ?_
  · refine f37 ?_
    (simp (maxSteps := 1000000) (dsimp := false) (disch := (first | omega | (simp only [okR]; done) | (simp only [sizeR] <;> omega) | fail)) only [↓preR, postR, ↓w_join, Nat.reduceEqDiff, Nat.reduceAdd, Nat.reduceSub, Nat.reduceMul, Int.reduceNeg, Nat.reduceLT, Int.reduceToNat, Nat.reduceLeDiff, Nat.sub_zero, F37, h2.obj])
    exact h3 _ _ n (fun _ => rfl) h2.put
  · (try simp (maxSteps := 1000000) (dsimp := false) (disch := (first | omega | (simp only [okR]; done) | (simp only [sizeR] <;> omega) | fail)) only [↓preR, postR, ↓w_join, Nat.reduceEqDiff, Nat.reduceAdd, Nat.reduceSub, Nat.reduceMul, Int.reduceNeg, Nat.reduceLT, Int.reduceToNat, Nat.reduceLeDiff, Nat.sub_zero])
    exact hk _ h2
theorem shift_c (h : Hs σ X (Vm v zero S :: R)) (hi : inI64 i) (hk : ∀ σ', Hs σ' X (Vm v zero (shiftV S i).2 :: R) → k (.int .i64 (shiftV S i).1) σ') :
    kCall Tryz.prog 15 [pv v, .int .i64 i] σ k := by
  obtain ⟨av, m, h1⟩ := Vs.open h
  refine f15 ?_
  (simp (maxSteps := 1000000) (dsimp := false) (disch := (first | omega | (simp only [okR]; done) | (simp only [sizeR] <;> omega) | fail)) only [↓preR, postR, ↓w_join, Nat.reduceEqDiff, Nat.reduceAdd, Nat.reduceSub, Nat.reduceMul, Int.reduceNeg, Nat.reduceLT, Int.reduceToNat, Nat.reduceLeDiff, Nat.sub_zero, F15])
  refine f38 ?_
  have h2 : Hs σ X (StrR av S.ar :: Cel v [.string (bs zero), av, .map (some m), .int .i64 S.st] :: Mp (κ := Str) m none (encL S.l) :: R) := h1.front 2 rfl
  obtain ⟨a, g, o, cap, rfl, hle, hcm, _⟩ := StrR.get h2
  unfold maxLen at hcm
  by_cases h0 : i < 0
  · (try simp (maxSteps := 1000000) (dsimp := false) (disch := (first | omega | (simp only [okR]; done) | (simp only [sizeR] <;> omega) | fail)) only [↓preR, postR, ↓w_join, Nat.reduceEqDiff, Nat.reduceAdd, Nat.reduceSub, Nat.reduceMul, Int.reduceNeg, Nat.reduceLT, Int.reduceToNat, Nat.reduceLeDiff, Nat.sub_zero, F38])
    have e : shiftV S i = (1, S) := by unfold shiftV; rw [if_pos (.inl h0)]
    rw [e] at hk
    exact hk _ h
  by_cases h3 : (S.ar.length : Int) < i
  · (try simp (maxSteps := 1000000) (dsimp := false) (disch := (first | omega | (simp only [okR]; done) | (simp only [sizeR] <;> omega) | fail)) only [↓preR, postR, ↓w_join, Nat.reduceEqDiff, Nat.reduceAdd, Nat.reduceSub, Nat.reduceMul, Int.reduceNeg, Nat.reduceLT, Int.reduceToNat, Nat.reduceLeDiff, Nat.sub_zero, F38, h1.obj])
    have e : shiftV S i = (1, S) := by unfold shiftV; rw [if_pos (.inr h3)]
    rw [e] at hk
    exact hk _ h
  · obtain ⟨j, rfl⟩ : ∃ j : Nat, i = j := ⟨i.toNat, by omega⟩
    obtain ⟨v', e1, h4⟩ := StrR.drop h2 (n := j) (by omega)
    have e : shiftV S (j : Int) = (0, ⟨S.ar.drop j, S.st, S.l⟩) := by
      unfold shiftV; rw [if_neg (by omega)]
      rfl
    rw [e] at hk
    obtain ⟨a2, g2, o2, cap2, rfl, _⟩ := StrR.get h4
    (simp (maxSteps := 1000000) (dsimp := false) (disch := (first | omega | (simp only [okR]; done) | (simp only [sizeR] <;> omega) | fail)) only [↓preR, postR, ↓w_join, Nat.reduceEqDiff, Nat.reduceAdd, Nat.reduceSub, Nat.reduceMul, Int.reduceNeg, Nat.reduceLT, Int.reduceToNat, Nat.reduceLeDiff, Nat.sub_zero, F38, h1.obj, ↓e1])
    have h5 : Hs σ X (Cel v [.string (bs zero), .slice a S.ar.length cap, .map (some m), .int .i64 S.st] :: Mp (κ := Str) m none (encL S.l) :: StrR (.slice a2 (S.ar.drop j).length cap2) (S.ar.drop j) :: R) := (h4.swap).swap.un2
    exact hk _ (Vs.close (ar := S.ar.drop j) h5.put)
end
end Go.Proofs.YtpnefcapiiemdaaGreatDoor
