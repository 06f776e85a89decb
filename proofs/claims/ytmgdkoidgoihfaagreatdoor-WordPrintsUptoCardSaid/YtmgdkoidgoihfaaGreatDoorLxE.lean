/- A text gone through, as the document's answer has it. Conditions: as each theorem says. -/
import Derived.Test.YtmgdkoidgoihfaaGreatDoorLxB
import Derived.Test.YtmgdkoidgoihfaaGreatDoorGd
namespace Go.Proofs.YtmgdkoidgoihfaaGreatDoor
open E Go.Lib
set_option linter.unusedVariables false
set_option linter.unusedSimpArgs false
set_option maxHeartbeats 1000000
set_option maxRecDepth 20000

abbrev atC (i b e : Int) : List Value := [.int .i64 i, .int .i64 b, .int .i64 e]
abbrev atV (i b e : Int) : Value := .agg (atC i b e).toArray
def RefK (X : Ce) (R : List Ck) (i : Nat) (k : Value → AS → Prop) : Rd → Prop
  | .ok n => ∀ σ', Hs σ' X R → k (atV ((i + n : Nat) : Int) 0 0) σ'
  | .bad e j => ∀ σ', Hs σ' X R → k (atV 0 ((i + j : Nat) : Int) e) σ'
  | .cut => True
def qW (w : Int) : Bool := decide (w = 1) || decide (w = 3)
def dW (w : Int) : Bool := decide (¬ w = 1)
def bW (w : Int) : Bool := decide (w = 4)
def RThC (f : Nat) : Prop := ∀ {σ : AS} {X : Ce} {R : List Ck} {k : Value → AS → Prop} {i deep : Nat} {s : Str} {w : Int}, 2 * (s.length - i) + 1 ≤ f → i < s.length → deep ≤ 40 → s.length ≤ 1000000 → inI64 w →
  Hs σ X R → RefK X R i k (go f none (s.drop i) (qW w) (dW w) (bW w) deep) → kCall Tryz.prog 50 [.string (bs s), .int .i64 i, .int .i64 w, .int .i64 deep] σ k
theorem pos_cons (c a : UInt8) (l : Str) : posB c (a :: l) = if a = c then some 0 else (posB c l).map (· + 1) := rfl
section
variable {σ σ' : AS} {X : Ce} {R : List Ck} {C : Ck} {k : Value → AS → Prop} {p i bat deep f m n : Nat} {s pre : Str} {rest : List Value} {c e : UInt8} {q d b : Bool} {r : Rd} {w : Int}
theorem RefK.junk (h : RefK X R i k r) : RefK X (C :: R) i k r := by
  cases r with
  | ok n => exact fun σ' h1 => h σ' h1.drop
  | bad e j => exact fun σ' h1 => h σ' h1.drop
  | cut => trivial
theorem rclosed_c {ev : Int} (ih : ∀ g, g < f → RThC g) (h : Hs σ X R) (he : ev = e.toNat) (hd : deep ≤ 40) (hs : s.length ≤ 1000000) (hw : inI64 w) (hn : i + n ≤ s.length) (hm : i + m ≤ s.length)
    (hf : 2 * (s.length - (i + n)) + 2 ≤ f) (hk : RefK X R i k (shut m n deep (go f (some e) (s.drop (i + n)) (qW w) (dW w) (bW w) (deep + 1)))) :
    kCall Tryz.prog 74 [.string (bs s), .int .i64 ((i + n : Nat) : Int), .int .i64 ((i + m : Nat) : Int), .int .u8 ev, .int .i64 w, .int .i64 deep] σ k := by
  subst he
  refine f74 ?_
  unfold shut at hk
  have h1 := h.new (cs := atC 0 0 0)
  (try simp (maxSteps := 1000000) (dsimp := false) (disch := (first | omega | (simp only [okR]; done) | (simp only [sizeR] <;> omega) | fail)) only [↓preR, postR, ↓w_stop, Nat.reduceEqDiff, Nat.reduceAdd, Nat.reduceSub, Nat.reduceMul, Int.reduceNeg, Nat.reduceLT, Int.reduceToNat, Nat.reduceLeDiff, Nat.sub_zero, F74])
  refine join_now ?_
  by_cases h40 : 40 ≤ deep
  · rw [if_pos h40] at hk
    (try simp (maxSteps := 1000000) (dsimp := false) (disch := (first | omega | (simp only [okR]; done) | (simp only [sizeR] <;> omega) | fail)) only [↓preR, postR, ↓w_stop, Nat.reduceEqDiff, Nat.reduceAdd, Nat.reduceSub, Nat.reduceMul, Int.reduceNeg, Nat.reduceLT, Int.reduceToNat, Nat.reduceLeDiff, Nat.sub_zero, h1.obj, h1.put.obj])
    exact hk _ (h1.put (cs' := atC 0 ((i + m : Nat) : Int) 3)).drop
  rw [if_neg h40] at hk
  generalize hr0 : go f (some e) (s.drop (i + n)) (qW w) (dW w) (bW w) (deep + 1) = r0 at hk
  (try simp (maxSteps := 1000000) (dsimp := false) (disch := (first | omega | (simp only [okR]; done) | (simp only [sizeR] <;> omega) | fail)) only [↓preR, postR, ↓w_stop, Nat.reduceEqDiff, Nat.reduceAdd, Nat.reduceSub, Nat.reduceMul, Int.reduceNeg, Nat.reduceLT, Int.reduceToNat, Nat.reduceLeDiff, Nat.sub_zero])
  generalize AS.new σ _ = s1 at h1 ⊢
  generalize σ.n = cb at h1 ⊢
  refine join_by fun J hJ => ?_
  have tail : ∀ (s2 : AS) (i1 : Nat), Hs s2 X (Cel cb (atC 0 0 0) :: R) → i1 ≤ s.length → ((i1 = s.length ∧ r0 = .cut) ∨ (i1 < s.length ∧ r0 = .ok (i1 - (i + n) + 1))) → i + n ≤ i1 → J [.int .i64 i1] s2 := by
    intro s2 i1 h2 hle hc hi1
    refine hJ _ _ ?_
    clear hJ
    (try simp (maxSteps := 1000000) (dsimp := false) (disch := (first | omega | (simp only [okR]; done) | (simp only [sizeR] <;> omega) | fail)) only [↓preR, postR, ↓w_stop, Nat.reduceEqDiff, Nat.reduceAdd, Nat.reduceSub, Nat.reduceMul, Int.reduceNeg, Nat.reduceLT, Int.reduceToNat, Nat.reduceLeDiff, Nat.sub_zero])
    refine join_now ?_
    rcases hc with ⟨hc, hr⟩ | ⟨hc, hr⟩
    · subst hr
      (try simp (maxSteps := 1000000) (dsimp := false) (disch := (first | omega | (simp only [okR]; done) | (simp only [sizeR] <;> omega) | fail)) only [↓preR, postR, ↓w_stop, Nat.reduceEqDiff, Nat.reduceAdd, Nat.reduceSub, Nat.reduceMul, Int.reduceNeg, Nat.reduceLT, Int.reduceToNat, Nat.reduceLeDiff, Nat.sub_zero, h2.obj, h2.put.obj, hc])
      exact hk _ (h2.put (cs' := atC 0 ((i + m : Nat) : Int) 11)).drop
    · subst hr
      (try simp (maxSteps := 1000000) (dsimp := false) (disch := (first | omega | (simp only [okR]; done) | (simp only [sizeR] <;> omega) | fail)) only [↓preR, postR, ↓w_stop, Nat.reduceEqDiff, Nat.reduceAdd, Nat.reduceSub, Nat.reduceMul, Int.reduceNeg, Nat.reduceLT, Int.reduceToNat, Nat.reduceLeDiff, Nat.sub_zero, h2.obj, h2.put.obj])
      have e1 : (i1 : Int) + 1 = ((i + (n + (i1 - (i + n) + 1)) : Nat) : Int) := by omega
      rw [e1]
      exact hk _ (h2.put (cs' := atC ((i + (n + (i1 - (i + n) + 1)) : Nat) : Int) 0 0)).drop
  clear hJ
  refine loop_inv (fun nn xs s2 => ∃ i1 g : Nat, xs = [.int .i64 i1] ∧ g ≤ f ∧ i + n ≤ i1 ∧ i1 ≤ s.length ∧ 2 * (s.length - i1) + 2 ≤ g ∧ Hs s2 X (Cel cb (atC 0 0 0) :: R) ∧ (go g (some e) (s.drop i1) (qW w) (dW w) (bW w) (deep + 1)).add (i1 - (i + n)) = r0 ∧ nn = s.length - i1) _
    ⟨i + n, f, rfl, Nat.le_refl _, Nat.le_refl _, hn, hf, h1, by rw [hr0, Nat.sub_self]; cases r0 <;> simp [Rd.add], rfl⟩ ?_
  rintro _ _ s2 again ⟨i1, g, rfl, hg, hi1, hi2, hg2, h2, hr, rfl⟩ hag
  obtain ⟨g, rfl⟩ : ∃ g', g = g' + 1 := ⟨g - 1, by omega⟩
  (try simp (maxSteps := 1000000) (dsimp := false) (disch := (first | omega | (simp only [okR]; done) | (simp only [sizeR] <;> omega) | fail)) only [↓preR, postR, ↓w_stop, Nat.reduceEqDiff, Nat.reduceAdd, Nat.reduceSub, Nat.reduceMul, Int.reduceNeg, Nat.reduceLT, Int.reduceToNat, Nat.reduceLeDiff, Nat.sub_zero])
  refine join_now ?_
  by_cases hend : i1 = s.length
  · subst hend
    rw [List.drop_of_length_le (Nat.le_refl _)] at hr
    have hr : r0 = .cut := hr.symm
    (try simp (maxSteps := 1000000) (dsimp := false) (disch := (first | omega | (simp only [okR]; done) | (simp only [sizeR] <;> omega) | fail)) only [↓preR, postR, ↓w_stop, Nat.reduceEqDiff, Nat.reduceAdd, Nat.reduceSub, Nat.reduceMul, Int.reduceNeg, Nat.reduceLT, Int.reduceToNat, Nat.reduceLeDiff, Nat.sub_zero])
    exact tail s2 _ h2 (by omega) (.inl ⟨rfl, hr⟩) (by omega)
  have hlt1 : i1 < s.length := by omega
  rw [drop_c hlt1] at hr
  by_cases hc : s[i1] = e
  · have hr : r0 = .ok (i1 - (i + n) + 1) := by rw [← hr, go_s, if_pos hc]; rfl
    have hce : (((s[i1]?).getD 0).toNat : Int) = (e.toNat : Int) := by rw [getd hlt1, hc]
    (try simp (maxSteps := 1000000) (dsimp := false) (disch := (first | omega | (simp only [okR]; done) | (simp only [sizeR] <;> omega) | fail)) only [↓preR, postR, ↓w_stop, Nat.reduceEqDiff, Nat.reduceAdd, Nat.reduceSub, Nat.reduceMul, Int.reduceNeg, Nat.reduceLT, Int.reduceToNat, Nat.reduceLeDiff, Nat.sub_zero, hce])
    exact tail s2 i1 h2 hi2 (.inr ⟨hlt1, hr⟩) hi1
  have hce : ¬ (((s[i1]?).getD 0).toNat : Int) = (e.toNat : Int) := by
    rw [getd hlt1]
    intro h
    exact hc (UInt8.toNat_inj.1 (by omega))
  rw [go_s, if_neg hc] at hr
  (try simp (maxSteps := 1000000) (dsimp := false) (disch := (first | omega | (simp only [okR]; done) | (simp only [sizeR] <;> omega) | fail)) only [↓preR, postR, ↓w_stop, Nat.reduceEqDiff, Nat.reduceAdd, Nat.reduceSub, Nat.reduceMul, Int.reduceNeg, Nat.reduceLT, Int.reduceToNat, Nat.reduceLeDiff, Nat.sub_zero, hce])
  refine ih g (by omega) (deep := deep + 1) (by omega) hlt1 (by omega) hs hw h2 ?_
  rw [drop_c hlt1]
  cases hgo : go g none (s[i1] :: s.drop (i1 + 1)) (qW w) (dW w) (bW w) (deep + 1) with
  | ok j =>
    rw [hgo] at hr
    have h5 := go_ok hgo
    rw [← drop_c hlt1] at hr h5
    rw [List.length_drop] at h5
    simp only [drop_drop', add_add] at hr
    intro s3 h3
    have h4 := h3.new (cs := atC 0 0 0)
    (try simp (maxSteps := 1000000) (dsimp := false) (disch := (first | omega | (simp only [okR]; done) | (simp only [sizeR] <;> omega) | fail)) only [↓preR, postR, ↓w_stop, Nat.reduceEqDiff, Nat.reduceAdd, Nat.reduceSub, Nat.reduceMul, Int.reduceNeg, Nat.reduceLT, Int.reduceToNat, Nat.reduceLeDiff, Nat.sub_zero, h4.obj, h4.put.obj])
    refine join_now ?_
    (try simp (maxSteps := 1000000) (dsimp := false) (disch := (first | omega | (simp only [okR]; done) | (simp only [sizeR] <;> omega) | fail)) only [↓preR, postR, ↓w_stop, Nat.reduceEqDiff, Nat.reduceAdd, Nat.reduceSub, Nat.reduceMul, Int.reduceNeg, Nat.reduceLT, Int.reduceToNat, Nat.reduceLeDiff, Nat.sub_zero, h4.obj, h4.put.obj])
    refine hag _ _ _ ⟨i1 + j, g, rfl, by omega, by omega, by omega, by omega, (h4.put (cs' := atC ((i1 + j : Nat) : Int) 0 0)).drop, ?_, rfl⟩ (by omega)
    rw [← hr]
    congr 1
    omega
  | bad e' j =>
    rw [hgo] at hr
    have h5 := go_bad hgo
    rw [← drop_c hlt1, List.length_drop] at h5
    have hr : r0 = .bad e' (i1 - (i + n) + j) := hr.symm
    subst hr
    intro s3 h3
    have hn0 : ¬ e' = 0 := by rcases h5.2 with h | h | h <;> omega
    have e1 : ((i1 + j : Nat) : Int) = ((i + (n + (i1 - (i + n) + j)) : Nat) : Int) := by omega
    have h4 := h3.new (cs := atC 0 0 0)
    have h6 := (h4.put (cs' := atC 0 ((i1 + j : Nat) : Int) e'))
    have h7 := h6.swap.put (cs' := atC 0 ((i1 + j : Nat) : Int) e')
    (try simp (maxSteps := 1000000) (dsimp := false) (disch := (first | omega | (simp only [okR]; done) | (simp only [sizeR] <;> omega) | fail)) only [↓preR, postR, ↓w_stop, Nat.reduceEqDiff, Nat.reduceAdd, Nat.reduceSub, Nat.reduceMul, Int.reduceNeg, Nat.reduceLT, Int.reduceToNat, Nat.reduceLeDiff, Nat.sub_zero, h4.obj, h4.put.obj])
    refine join_now ?_
    (try simp (maxSteps := 1000000) (dsimp := false) (disch := (first | omega | (simp only [okR]; done) | (simp only [sizeR] <;> omega) | fail)) only [↓preR, postR, ↓w_stop, Nat.reduceEqDiff, Nat.reduceAdd, Nat.reduceSub, Nat.reduceMul, Int.reduceNeg, Nat.reduceLT, Int.reduceToNat, Nat.reduceLeDiff, Nat.sub_zero, hn0, h6.obj, h6.obj1, h7.obj])
    rw [e1]
    rw [e1] at h7
    exact hk _ h7.drop.drop
  | cut => trivial
/-- A thing, with enough fuel. -/
theorem rthing_c : ∀ f, RThC f := by
  intro f
  induction f using Nat.strongRecOn with
  | ind f ih =>
    intro σ X R k i deep s w hf hi hd hs hw h hk
    obtain ⟨f, rfl⟩ : ∃ f', f = f' + 1 := ⟨f - 1, by omega⟩
    have ih' : ∀ g, g < f → RThC g := fun g hg => ih g (by omega)
    rw [drop_c hi, go_n] at hk
    refine f50 ?_
    have h1 := h.new (cs := atC 0 0 0)
    (try simp (maxSteps := 1000000) (dsimp := false) (disch := (first | omega | (simp only [okR]; done) | (simp only [sizeR] <;> omega) | fail)) only [↓preR, postR, ↓w_stop, Nat.reduceEqDiff, Nat.reduceAdd, Nat.reduceSub, Nat.reduceMul, Int.reduceNeg, Nat.reduceLT, Int.reduceToNat, Nat.reduceLeDiff, Nat.sub_zero, F50, getd hi])
    refine grd_or (b := decide (w = 3)) (fun _ k' hk' => ?_) ?_
    · (try simp (maxSteps := 1000000) (dsimp := false) (disch := (first | omega | (simp only [okR]; done) | (simp only [sizeR] <;> omega) | fail)) only [↓preR, postR, ↓w_stop, Nat.reduceEqDiff, Nat.reduceAdd, Nat.reduceSub, Nat.reduceMul, Int.reduceNeg, Nat.reduceLT, Int.reduceToNat, Nat.reduceLeDiff, Nat.sub_zero])
      exact hk'
    rw [show (decide (w = 1) || decide (w = 3)) = qW w from rfl]
    generalize hc : s[i] = c at hk ⊢
    generalize AS.new σ _ = s1 at h1 ⊢
    generalize σ.n = cb at h1 ⊢
    have tt : ∀ (x : UInt8) (n : Int), n = x.toNat → c = x → ((c.toNat : Int) = n) = True := fun x n hn h => eq_true (by rw [hn, h])
    have ff : ∀ (x : UInt8) (n : Int), n = x.toNat → ¬ c = x → ((c.toNat : Int) = n) = False := fun x n hn h => eq_false (fun h' => h (UInt8.toNat_inj.1 (by omega)))
    have nx : ∀ x : UInt8, c = x → ∀ y : UInt8, ¬ x = y → ¬ c = y := fun x h y hn h' => hn (h.symm.trans h')
    have put : ∀ {a b e : Int}, Hs (s1.put cb (.cells (atC a b e))) X (Cel cb (atC a b e) :: R) := fun {a b e} => h1.put
    have dflt : RefK X R i k (.ok 1) → k (atV ((i : Int) + 1) 0 0) (s1.put cb (.cells (atC ((i : Int) + 1) 0 0))) := fun h => h _ put.drop
    (try simp (maxSteps := 1000000) (dsimp := false) (disch := (first | omega | (simp only [okR]; done) | (simp only [sizeR] <;> omega) | fail)) only [↓preR, postR, ↓w_stop, Nat.reduceEqDiff, Nat.reduceAdd, Nat.reduceSub, Nat.reduceMul, Int.reduceNeg, Nat.reduceLT, Int.reduceToNat, Nat.reduceLeDiff, Nat.sub_zero])
    refine join_now ?_
    by_cases c1 : c = 92
    · simp only [c1, if_true] at hk
      have e1 : (if (s.length : Int) < (i : Int) + 2 then (s.length : Int) else (i : Int) + 2) = ((i + (if s.drop (i + 1) = [] then 1 else 2) : Nat) : Int) := by
        by_cases h2 : i + 2 ≤ s.length
        · have : ¬ s.drop (i + 1) = [] := fun h => by have := congrArg List.length h; rw [List.length_drop] at this; simp at this; omega
          rw [if_neg this, if_neg (by omega)]; omega
        · have : s.drop (i + 1) = [] := List.drop_of_length_le (by omega)
          rw [if_pos this, if_pos (by omega)]; omega
      have t1 := tt 92 92 rfl c1
      (try simp (maxSteps := 1000000) (dsimp := false) (disch := (first | omega | (simp only [okR]; done) | (simp only [sizeR] <;> omega) | fail)) only [↓preR, postR, ↓w_stop, Nat.reduceEqDiff, Nat.reduceAdd, Nat.reduceSub, Nat.reduceMul, Int.reduceNeg, Nat.reduceLT, Int.reduceToNat, Nat.reduceLeDiff, Nat.sub_zero, t1, ↓e1, h1.obj, put.obj])
      exact hk _ put.drop
    have f1 := ff 92 92 rfl c1
    simp only [c1, if_false] at hk
    (try simp (maxSteps := 1000000) (dsimp := false) (disch := (first | omega | (simp only [okR]; done) | (simp only [sizeR] <;> omega) | fail)) only [↓preR, postR, ↓w_stop, Nat.reduceEqDiff, Nat.reduceAdd, Nat.reduceSub, Nat.reduceMul, Int.reduceNeg, Nat.reduceLT, Int.reduceToNat, Nat.reduceLeDiff, Nat.sub_zero, f1])
    refine join_now ?_
    have ret : ∀ r, RefK X R i k r → RefK X (Cel cb (atC 0 0 0) :: R) i (fun v s => kSt s 3 (pv cb) v fun s => kLdN s 3 (pv cb) fun r0 => k r0 s) r := by
      intro r hr
      cases r with
      | ok n =>
        intro s2 h2
        have h3 := h2.put (cs' := atC ((i + n : Nat) : Int) 0 0)
        (try simp (maxSteps := 1000000) (dsimp := false) (disch := (first | omega | (simp only [okR]; done) | (simp only [sizeR] <;> omega) | fail)) only [↓preR, postR, ↓w_stop, Nat.reduceEqDiff, Nat.reduceAdd, Nat.reduceSub, Nat.reduceMul, Int.reduceNeg, Nat.reduceLT, Int.reduceToNat, Nat.reduceLeDiff, Nat.sub_zero, h2.obj, h3.obj])
        exact hr _ h3.drop
      | bad e j =>
        intro s2 h2
        have h3 := h2.put (cs' := atC 0 ((i + j : Nat) : Int) e)
        (try simp (maxSteps := 1000000) (dsimp := false) (disch := (first | omega | (simp only [okR]; done) | (simp only [sizeR] <;> omega) | fail)) only [↓preR, postR, ↓w_stop, Nat.reduceEqDiff, Nat.reduceAdd, Nat.reduceSub, Nat.reduceMul, Int.reduceNeg, Nat.reduceLT, Int.reduceToNat, Nat.reduceLeDiff, Nat.sub_zero, h2.obj, h3.obj])
        exact hr _ h3.drop
      | cut => trivial
    (try simp (maxSteps := 1000000) (dsimp := false) (disch := (first | omega | (simp only [okR]; done) | (simp only [sizeR] <;> omega) | fail)) only [↓preR, postR, ↓w_stop, Nat.reduceEqDiff, Nat.reduceAdd, Nat.reduceSub, Nat.reduceMul, Int.reduceNeg, Nat.reduceLT, Int.reduceToNat, Nat.reduceLeDiff, Nat.sub_zero])
    refine grd_and (b := !qW w) (fun _ k' hk' => ?_) ?_
    · (try simp (maxSteps := 1000000) (dsimp := false) (disch := (first | omega | (simp only [okR]; done) | (simp only [sizeR] <;> omega) | fail)) only [↓preR, postR, ↓w_stop, Nat.reduceEqDiff, Nat.reduceAdd, Nat.reduceSub, Nat.reduceMul, Int.reduceNeg, Nat.reduceLT, Int.reduceToNat, Nat.reduceLeDiff, Nat.sub_zero])
      exact hk'
    by_cases c2 : c = 39 ∧ qW w = false
    · rw [if_pos c2] at hk
      have t2 : (decide ((c.toNat : Int) = 39) && !qW w) = true := by simp [c2.2, tt 39 39 rfl c2.1]
      rw [t2]
      (try simp (maxSteps := 1000000) (dsimp := false) (disch := (first | omega | (simp only [okR]; done) | (simp only [sizeR] <;> omega) | fail)) only [↓preR, postR, ↓w_stop, Nat.reduceEqDiff, Nat.reduceAdd, Nat.reduceSub, Nat.reduceMul, Int.reduceNeg, Nat.reduceLT, Int.reduceToNat, Nat.reduceLeDiff, Nat.sub_zero])
      refine join_by fun J hJ => ?_
      have tail : posB 39 (s.drop (i + 1)) = none → J [] s1 := by
        intro hp
        rw [hp] at hk
        refine hJ _ _ ?_
        (try simp (maxSteps := 1000000) (dsimp := false) (disch := (first | omega | (simp only [okR]; done) | (simp only [sizeR] <;> omega) | fail)) only [↓preR, postR, ↓w_stop, Nat.reduceEqDiff, Nat.reduceAdd, Nat.reduceSub, Nat.reduceMul, Int.reduceNeg, Nat.reduceLT, Int.reduceToNat, Nat.reduceLeDiff, Nat.sub_zero, h1.obj, put.obj])
        exact hk _ put.drop
      clear hJ
      (try simp (maxSteps := 1000000) (dsimp := false) (disch := (first | omega | (simp only [okR]; done) | (simp only [sizeR] <;> omega) | fail)) only [↓preR, postR, ↓w_stop, Nat.reduceEqDiff, Nat.reduceAdd, Nat.reduceSub, Nat.reduceMul, Int.reduceNeg, Nat.reduceLT, Int.reduceToNat, Nat.reduceLeDiff, Nat.sub_zero])
      refine loop_inv (fun nn xs s2 => ∃ j : Nat, xs = [.int .i64 ((i + 1 + j : Nat) : Int)] ∧ s1 = s2 ∧ i + 1 + j ≤ s.length ∧ (posB 39 (s.drop (i + 1 + j))).map (· + j) = posB 39 (s.drop (i + 1)) ∧ nn = s.length - j) _ ⟨0, rfl, rfl, by omega, by simp, rfl⟩ ?_
      rintro _ _ s2 again ⟨j, rfl, rfl, hj, hp, rfl⟩ hag
      (try simp (maxSteps := 1000000) (dsimp := false) (disch := (first | omega | (simp only [okR]; done) | (simp only [sizeR] <;> omega) | fail)) only [↓preR, postR, ↓w_stop, Nat.reduceEqDiff, Nat.reduceAdd, Nat.reduceSub, Nat.reduceMul, Int.reduceNeg, Nat.reduceLT, Int.reduceToNat, Nat.reduceLeDiff, Nat.sub_zero])
      refine join_now ?_
      by_cases hlt : i + 1 + j < s.length
      · rw [drop_c hlt] at hp
        (try simp (maxSteps := 1000000) (dsimp := false) (disch := (first | omega | (simp only [okR]; done) | (simp only [sizeR] <;> omega) | fail)) only [↓preR, postR, ↓w_stop, Nat.reduceEqDiff, Nat.reduceAdd, Nat.reduceSub, Nat.reduceMul, Int.reduceNeg, Nat.reduceLT, Int.reduceToNat, Nat.reduceLeDiff, Nat.sub_zero])
        refine join_now ?_
        rw [pos_cons] at hp
        by_cases hx : s[i + 1 + j] = 39
        · rw [if_pos hx] at hp
          rw [← hp] at hk
          have hx2 : (((s[i + 1 + j]?).getD 0).toNat : Int) = 39 := by rw [getd hlt, hx]; rfl
          (try simp (maxSteps := 1000000) (dsimp := false) (disch := (first | omega | (simp only [okR]; done) | (simp only [sizeR] <;> omega) | fail)) only [↓preR, postR, ↓w_stop, Nat.reduceEqDiff, Nat.reduceAdd, Nat.reduceSub, Nat.reduceMul, Int.reduceNeg, Nat.reduceLT, Int.reduceToNat, Nat.reduceLeDiff, Nat.sub_zero, hx2, h1.obj, put.obj])
          have e1 : ((i : Int) + 1 + (j : Int) + 1) = ((i + (0 + j + 2) : Nat) : Int) := by omega
          have := hk _ (put (a := ((i + (0 + j + 2) : Nat) : Int)) (b := 0) (e := 0)).drop
          simp only [Option.map_some] at this
          first | exact this | (have e2 : ((i + 1 + j : Nat) : Int) + 1 = ((i + (0 + j + 2) : Nat) : Int) := by omega
                                rw [e2]; exact this)
        · rw [if_neg hx] at hp
          have hx2 : ¬ (((s[i + 1 + j]?).getD 0).toNat : Int) = 39 := by
            rw [getd hlt]
            intro h
            exact hx (UInt8.toNat_inj.1 (by show s[i + 1 + j].toNat = 39; omega))
          (try simp (maxSteps := 1000000) (dsimp := false) (disch := (first | omega | (simp only [okR]; done) | (simp only [sizeR] <;> omega) | fail)) only [↓preR, postR, ↓w_stop, Nat.reduceEqDiff, Nat.reduceAdd, Nat.reduceSub, Nat.reduceMul, Int.reduceNeg, Nat.reduceLT, Int.reduceToNat, Nat.reduceLeDiff, Nat.sub_zero, hx2])
          refine hag _ _ _ ⟨j + 1, ?_, rfl, by omega, ?_, rfl⟩ (by omega)
          · congr 2
          · rw [← hp, Option.map_map]
            congr 1
            funext a
            simp
            omega
      · rw [List.drop_of_length_le (by omega)] at hp
        (try simp (maxSteps := 1000000) (dsimp := false) (disch := (first | omega | (simp only [okR]; done) | (simp only [sizeR] <;> omega) | fail)) only [↓preR, postR, ↓w_stop, Nat.reduceEqDiff, Nat.reduceAdd, Nat.reduceSub, Nat.reduceMul, Int.reduceNeg, Nat.reduceLT, Int.reduceToNat, Nat.reduceLeDiff, Nat.sub_zero])
        exact tail hp.symm
    rw [if_neg c2] at hk
    have f2 : (decide ((c.toNat : Int) = 39) && !qW w) = false := by
      by_cases c2' : c = 39
      · have : qW w = true := by
          cases hq : qW w with
          | true => rfl
          | false => exact absurd ⟨c2', hq⟩ c2
        rw [this]; simp
      · simp [ff 39 39 rfl c2']
    rw [f2]
    (try simp (maxSteps := 1000000) (dsimp := false) (disch := (first | omega | (simp only [okR]; done) | (simp only [sizeR] <;> omega) | fail)) only [↓preR, postR, ↓w_stop, Nat.reduceEqDiff, Nat.reduceAdd, Nat.reduceSub, Nat.reduceMul, Int.reduceNeg, Nat.reduceLT, Int.reduceToNat, Nat.reduceLeDiff, Nat.sub_zero])
    refine join_now ?_
    (try simp (maxSteps := 1000000) (dsimp := false) (disch := (first | omega | (simp only [okR]; done) | (simp only [sizeR] <;> omega) | fail)) only [↓preR, postR, ↓w_stop, Nat.reduceEqDiff, Nat.reduceAdd, Nat.reduceSub, Nat.reduceMul, Int.reduceNeg, Nat.reduceLT, Int.reduceToNat, Nat.reduceLeDiff, Nat.sub_zero])
    refine grd_and (b := decide (¬ w = 1)) (fun _ k' hk' => ?_) ?_
    · (try simp (maxSteps := 1000000) (dsimp := false) (disch := (first | omega | (simp only [okR]; done) | (simp only [sizeR] <;> omega) | fail)) only [↓preR, postR, ↓w_stop, Nat.reduceEqDiff, Nat.reduceAdd, Nat.reduceSub, Nat.reduceMul, Int.reduceNeg, Nat.reduceLT, Int.reduceToNat, Nat.reduceLeDiff, Nat.sub_zero])
      simpa using hk'
    have dd : ∀ (x : UInt8) (n : Int) (b : Bool), n = x.toNat → (c = x ∧ b = true) → (decide ((c.toNat : Int) = n) && b) = true := fun x n b hn h => by simp [h.2, tt x n hn h.1]
    have df : ∀ (x : UInt8) (n : Int) (b : Bool), n = x.toNat → ¬ (c = x ∧ b = true) → (decide ((c.toNat : Int) = n) && b) = false := fun x n b hn h => by
      by_cases hx : c = x
      · have : b = false := by
          cases b with
          | false => rfl
          | true => exact absurd ⟨hx, rfl⟩ h
        rw [this]; simp
      · simp [ff x n hn hx]
    have ed : decide (¬ w = 1) = dW w := rfl
    rw [ed]
    by_cases c3 : c = 34 ∧ dW w = true
    · rw [if_pos c3] at hk
      rw [dd 34 34 _ rfl c3]
      (try simp (maxSteps := 1000000) (dsimp := false) (disch := (first | omega | (simp only [okR]; done) | (simp only [sizeR] <;> omega) | fail)) only [↓preR, postR, ↓w_stop, Nat.reduceEqDiff, Nat.reduceAdd, Nat.reduceSub, Nat.reduceMul, Int.reduceNeg, Nat.reduceLT, Int.reduceToNat, Nat.reduceLeDiff, Nat.sub_zero])
      exact rclosed_c (i := i) (m := 0) (n := 1) (e := 34) (f := f) ih' h1 rfl hd hs (by unfold inI64; omega) (by omega) (by omega) (by omega) (ret _ hk)
    rw [if_neg c3] at hk
    rw [df 34 34 _ rfl c3]
    (try simp (maxSteps := 1000000) (dsimp := false) (disch := (first | omega | (simp only [okR]; done) | (simp only [sizeR] <;> omega) | fail)) only [↓preR, postR, ↓w_stop, Nat.reduceEqDiff, Nat.reduceAdd, Nat.reduceSub, Nat.reduceMul, Int.reduceNeg, Nat.reduceLT, Int.reduceToNat, Nat.reduceLeDiff, Nat.sub_zero])
    refine join_now ?_
    (try simp (maxSteps := 1000000) (dsimp := false) (disch := (first | omega | (simp only [okR]; done) | (simp only [sizeR] <;> omega) | fail)) only [↓preR, postR, ↓w_stop, Nat.reduceEqDiff, Nat.reduceAdd, Nat.reduceSub, Nat.reduceMul, Int.reduceNeg, Nat.reduceLT, Int.reduceToNat, Nat.reduceLeDiff, Nat.sub_zero])
    refine grd_and (b := decide (w = 4)) (fun _ k' hk' => ?_) ?_
    · (try simp (maxSteps := 1000000) (dsimp := false) (disch := (first | omega | (simp only [okR]; done) | (simp only [sizeR] <;> omega) | fail)) only [↓preR, postR, ↓w_stop, Nat.reduceEqDiff, Nat.reduceAdd, Nat.reduceSub, Nat.reduceMul, Int.reduceNeg, Nat.reduceLT, Int.reduceToNat, Nat.reduceLeDiff, Nat.sub_zero])
      exact hk'
    have eb : decide (w = 4) = bW w := rfl
    rw [eb]
    by_cases c4 : c = 40 ∧ bW w = true
    · rw [if_pos c4] at hk
      rw [dd 40 40 _ rfl c4]
      (try simp (maxSteps := 1000000) (dsimp := false) (disch := (first | omega | (simp only [okR]; done) | (simp only [sizeR] <;> omega) | fail)) only [↓preR, postR, ↓w_stop, Nat.reduceEqDiff, Nat.reduceAdd, Nat.reduceSub, Nat.reduceMul, Int.reduceNeg, Nat.reduceLT, Int.reduceToNat, Nat.reduceLeDiff, Nat.sub_zero])
      exact rclosed_c (i := i) (m := 0) (n := 1) (e := 41) (f := f) ih' h1 rfl hd hs (by unfold inI64; omega) (by omega) (by omega) (by omega) (ret _ hk)
    rw [if_neg c4] at hk
    rw [df 40 40 _ rfl c4]
    (try simp (maxSteps := 1000000) (dsimp := false) (disch := (first | omega | (simp only [okR]; done) | (simp only [sizeR] <;> omega) | fail)) only [↓preR, postR, ↓w_stop, Nat.reduceEqDiff, Nat.reduceAdd, Nat.reduceSub, Nat.reduceMul, Int.reduceNeg, Nat.reduceLT, Int.reduceToNat, Nat.reduceLeDiff, Nat.sub_zero])
    refine join_now ?_
    have jdef : (((i : Int) + 1) < (s.length : Int)) ↔ i + 1 < s.length := by omega
    by_cases c5 : c = 36
    · have t5 := tt 36 36 rfl c5
      simp only [c5, if_true] at hk
      by_cases hlt : i + 1 < s.length
      · rw [drop_c hlt] at hk
        have tx : ∀ (x : UInt8) (n : Int), n = x.toNat → s[i + 1] = x → ((((s[i + 1]?).getD 0).toNat : Int) = n) = True := fun x n hn h => eq_true (by rw [getd hlt, hn, h])
        have fx : ∀ (x : UInt8) (n : Int), n = x.toNat → ¬ s[i + 1] = x → ((((s[i + 1]?).getD 0).toNat : Int) = n) = False := fun x n hn h => eq_false (fun h' => h (UInt8.toNat_inj.1 (by rw [getd hlt] at h'; omega)))
        by_cases hx : s[i + 1] = 123
        · simp only [hx, if_true] at hk
          (try simp (maxSteps := 1000000) (dsimp := false) (disch := (first | omega | (simp only [okR]; done) | (simp only [sizeR] <;> omega) | fail)) only [↓preR, postR, ↓w_stop, Nat.reduceEqDiff, Nat.reduceAdd, Nat.reduceSub, Nat.reduceMul, Int.reduceNeg, Nat.reduceLT, Int.reduceToNat, Nat.reduceLeDiff, Nat.sub_zero, t5, tx 123 123 rfl hx])
          refine join_now ?_
          cases hq : qW w with
          | true =>
            rw [hq] at hk
            (try simp (maxSteps := 1000000) (dsimp := false) (disch := (first | omega | (simp only [okR]; done) | (simp only [sizeR] <;> omega) | fail)) only [↓preR, postR, ↓w_stop, Nat.reduceEqDiff, Nat.reduceAdd, Nat.reduceSub, Nat.reduceMul, Int.reduceNeg, Nat.reduceLT, Int.reduceToNat, Nat.reduceLeDiff, Nat.sub_zero])
            exact rclosed_c (i := i) (m := 0) (n := 2) (e := 125) (f := f) (w := 3) ih' h1 rfl hd hs (by unfold inI64; omega) (by omega) (by omega) (by omega) (ret _ hk)
          | false =>
            rw [hq] at hk
            (try simp (maxSteps := 1000000) (dsimp := false) (disch := (first | omega | (simp only [okR]; done) | (simp only [sizeR] <;> omega) | fail)) only [↓preR, postR, ↓w_stop, Nat.reduceEqDiff, Nat.reduceAdd, Nat.reduceSub, Nat.reduceMul, Int.reduceNeg, Nat.reduceLT, Int.reduceToNat, Nat.reduceLeDiff, Nat.sub_zero])
            exact rclosed_c (i := i) (m := 0) (n := 2) (e := 125) (f := f) (w := 2) ih' h1 rfl hd hs (by unfold inI64; omega) (by omega) (by omega) (by omega) (ret _ hk)
        · simp only [hx, if_false] at hk
          (try simp (maxSteps := 1000000) (dsimp := false) (disch := (first | omega | (simp only [okR]; done) | (simp only [sizeR] <;> omega) | fail)) only [↓preR, postR, ↓w_stop, Nat.reduceEqDiff, Nat.reduceAdd, Nat.reduceSub, Nat.reduceMul, Int.reduceNeg, Nat.reduceLT, Int.reduceToNat, Nat.reduceLeDiff, Nat.sub_zero, t5, fx 123 123 rfl hx])
          refine join_now ?_
          by_cases hy : s[i + 1] = 40
          · simp only [hy, if_true] at hk
            (try simp (maxSteps := 1000000) (dsimp := false) (disch := (first | omega | (simp only [okR]; done) | (simp only [sizeR] <;> omega) | fail)) only [↓preR, postR, ↓w_stop, Nat.reduceEqDiff, Nat.reduceAdd, Nat.reduceSub, Nat.reduceMul, Int.reduceNeg, Nat.reduceLT, Int.reduceToNat, Nat.reduceLeDiff, Nat.sub_zero, t5, tx 40 40 rfl hy])
            exact rclosed_c (i := i) (m := 1) (n := 2) (e := 41) (f := f) (w := 4) ih' h1 rfl hd hs (by unfold inI64; omega) (by omega) (by omega) (by omega) (ret _ hk)
          · simp only [hy, if_false] at hk
            (try simp (maxSteps := 1000000) (dsimp := false) (disch := (first | omega | (simp only [okR]; done) | (simp only [sizeR] <;> omega) | fail)) only [↓preR, postR, ↓w_stop, Nat.reduceEqDiff, Nat.reduceAdd, Nat.reduceSub, Nat.reduceMul, Int.reduceNeg, Nat.reduceLT, Int.reduceToNat, Nat.reduceLeDiff, Nat.sub_zero, t5, fx 40 40 rfl hy])
            refine join_now ?_
            (try simp (maxSteps := 1000000) (dsimp := false) (disch := (first | omega | (simp only [okR]; done) | (simp only [sizeR] <;> omega) | fail)) only [↓preR, postR, ↓w_stop, Nat.reduceEqDiff, Nat.reduceAdd, Nat.reduceSub, Nat.reduceMul, Int.reduceNeg, Nat.reduceLT, Int.reduceToNat, Nat.reduceLeDiff, Nat.sub_zero, ff 96 96 rfl (nx _ c5 _ (by decide)), h1.obj, put.obj])
            exact dflt hk
      · rw [List.drop_of_length_le (by omega)] at hk
        (try simp (maxSteps := 1000000) (dsimp := false) (disch := (first | omega | (simp only [okR]; done) | (simp only [sizeR] <;> omega) | fail)) only [↓preR, postR, ↓w_stop, Nat.reduceEqDiff, Nat.reduceAdd, Nat.reduceSub, Nat.reduceMul, Int.reduceNeg, Nat.reduceLT, Int.reduceToNat, Nat.reduceLeDiff, Nat.sub_zero, t5])
        refine join_now ?_
        (try simp (maxSteps := 1000000) (dsimp := false) (disch := (first | omega | (simp only [okR]; done) | (simp only [sizeR] <;> omega) | fail)) only [↓preR, postR, ↓w_stop, Nat.reduceEqDiff, Nat.reduceAdd, Nat.reduceSub, Nat.reduceMul, Int.reduceNeg, Nat.reduceLT, Int.reduceToNat, Nat.reduceLeDiff, Nat.sub_zero, t5])
        refine join_now ?_
        (try simp (maxSteps := 1000000) (dsimp := false) (disch := (first | omega | (simp only [okR]; done) | (simp only [sizeR] <;> omega) | fail)) only [↓preR, postR, ↓w_stop, Nat.reduceEqDiff, Nat.reduceAdd, Nat.reduceSub, Nat.reduceMul, Int.reduceNeg, Nat.reduceLT, Int.reduceToNat, Nat.reduceLeDiff, Nat.sub_zero, ff 96 96 rfl (nx _ c5 _ (by decide)), h1.obj, put.obj])
        exact dflt hk
    have f5 := ff 36 36 rfl c5
    simp only [c5, if_false] at hk
    (try simp (maxSteps := 1000000) (dsimp := false) (disch := (first | omega | (simp only [okR]; done) | (simp only [sizeR] <;> omega) | fail)) only [↓preR, postR, ↓w_stop, Nat.reduceEqDiff, Nat.reduceAdd, Nat.reduceSub, Nat.reduceMul, Int.reduceNeg, Nat.reduceLT, Int.reduceToNat, Nat.reduceLeDiff, Nat.sub_zero, f5])
    refine join_now ?_
    (try simp (maxSteps := 1000000) (dsimp := false) (disch := (first | omega | (simp only [okR]; done) | (simp only [sizeR] <;> omega) | fail)) only [↓preR, postR, ↓w_stop, Nat.reduceEqDiff, Nat.reduceAdd, Nat.reduceSub, Nat.reduceMul, Int.reduceNeg, Nat.reduceLT, Int.reduceToNat, Nat.reduceLeDiff, Nat.sub_zero, f5])
    refine join_now ?_
    by_cases c6 : c = 96
    · simp only [c6, if_true] at hk
      (try simp (maxSteps := 1000000) (dsimp := false) (disch := (first | omega | (simp only [okR]; done) | (simp only [sizeR] <;> omega) | fail)) only [↓preR, postR, ↓w_stop, Nat.reduceEqDiff, Nat.reduceAdd, Nat.reduceSub, Nat.reduceMul, Int.reduceNeg, Nat.reduceLT, Int.reduceToNat, Nat.reduceLeDiff, Nat.sub_zero, tt 96 96 rfl c6, h1.obj, put.obj])
      exact hk _ put.drop
    simp only [c6, if_false] at hk
    (try simp (maxSteps := 1000000) (dsimp := false) (disch := (first | omega | (simp only [okR]; done) | (simp only [sizeR] <;> omega) | fail)) only [↓preR, postR, ↓w_stop, Nat.reduceEqDiff, Nat.reduceAdd, Nat.reduceSub, Nat.reduceMul, Int.reduceNeg, Nat.reduceLT, Int.reduceToNat, Nat.reduceLeDiff, Nat.sub_zero, ff 96 96 rfl c6, h1.obj, put.obj])
    exact dflt hk
end
end Go.Proofs.YtmgdkoidgoihfaaGreatDoor
