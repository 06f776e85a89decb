/- Variables, as the document's answer has them: put, and each call. Conditions: as each theorem says. -/
import Derived.Test.YtpnefcapiiemdaaGreatDoorVaT
import Derived.Test.YtpnefcapiiemdaaGreatDoorOe
namespace Go.Proofs.YtpnefcapiiemdaaGreatDoor
open E Go.Lib
set_option linter.unusedVariables false
set_option linter.unusedSimpArgs false
set_option maxHeartbeats 1000000
set_option maxRecDepth 20000
theorem b_sgt (a b : Str) : binV .gtr (.string (bs a)) (.string (bs b)) = some (.bool (gtS a b)) := by
  have ea : (bs a).data.toList = a := by simp [bs]
  have eb : (bs b).data.toList = b := by simp [bs]
  show strV .gtr (bs a).data.toList (bs b).data.toList = _
  rw [ea, eb]
  rfl
section
variable {σ σ' : AS} {X : Ce} {R : List Ck} {k : Value → AS → Prop} {r : Nat} {lv av u : Value} {zero n val : Str} {st q i : Int} {L : List FV} {x : FV} {S : VM} {ms : List Str}
theorem put_len (x : FV) : ∀ {L : List FV} {d : Bool}, (putF x d L).length ≤ L.length + 1
  | [], d => by cases d <;> simp [putF]
  | p :: L, d => by
    have h1 := put_len x (L := L) (d := d || gtS p.1 x.1)
    have h2 : ∀ {L : List FV}, (putF x true L).length ≤ L.length := by
      intro L
      induction L with
      | nil => simp [putF]
      | cons q L ih =>
        unfold putF
        simp only [Bool.not_true, Bool.false_and, Bool.true_or, List.nil_append, Bool.false_eq_true, if_false]
        split
        · simp; omega
        · simp; omega
    unfold putF
    cases d with
    | true =>
      have := h2 (L := L)
      simp only [Bool.not_true, Bool.false_and, Bool.true_or, List.nil_append, Bool.false_eq_true, if_false]
      split
      · simp; omega
      · simp; omega
    | false =>
      simp only [Bool.not_false, Bool.true_and, Bool.false_or] at h1 ⊢
      have h3 : (if p.1 = x.1 then ([] : List FV) else [p]).length ≤ 1 := by split <;> simp
      rw [List.length_append, List.length_append, List.length_cons]
      cases hg : gtS p.1 x.1 with
      | true =>
        have := h2 (L := L)
        simp only [if_true, List.length_singleton]
        omega
      | false =>
        rw [hg] at h1
        simp only [Bool.false_eq_true, if_false, List.length_nil]
        omega
theorem put_c (hok : ∀ p, p ∈ L → FvOk p) (hx : FvOk x) (hl : L.length ≤ 1000000) (h : Hs σ X (VarR lv L :: Cel r [lv, .string (bs zero), av, .int .i64 st] :: R))
    (hk : ∀ lv' w σ', Hs σ' X (VarR lv' (putF x (!(x.2.2.1 || x.2.2.2.1 || x.2.2.2.2)) L) :: Cel r [lv', .string (bs zero), av, .int .i64 st] :: R) → k w σ') :
    kCall Tryz.prog 42 [pv r, .agg (celF x).toArray] σ k := by
  refine f42 ?_
  have h1 : Hs _ X (VarR lv L :: Cel r [lv, .string (bs zero), av, .int .i64 st] :: Cel σ.n (celF x) :: R) := (h.new (cs := celF x)).un2
  have ex := (h1.front 2 rfl).obj
  (try simp (maxSteps := 1000000) (dsimp := false) (disch := (first | omega | (simp only [okR]; done) | (simp only [sizeR] <;> omega) | fail)) only [↓preR, postR, ↓w_stop, Nat.reduceEqDiff, Nat.reduceAdd, Nat.reduceSub, Nat.reduceMul, Int.reduceNeg, Nat.reduceLT, Int.reduceToNat, Nat.reduceLeDiff, Nat.sub_zero, F42, ex])
  refine grd_and (b := !x.2.2.2.1) (fun _ k' hk' => ?_) ?_
  · (try simp (maxSteps := 1000000) (dsimp := false) (disch := (first | omega | (simp only [okR]; done) | (simp only [sizeR] <;> omega) | fail)) only [↓preR, postR, ↓w_stop, Nat.reduceEqDiff, Nat.reduceAdd, Nat.reduceSub, Nat.reduceMul, Int.reduceNeg, Nat.reduceLT, Int.reduceToNat, Nat.reduceLeDiff, Nat.sub_zero, ex])
    exact hk'
  refine grd_and (b := !x.2.2.2.2) (fun _ k' hk' => ?_) ?_
  · (try simp (maxSteps := 1000000) (dsimp := false) (disch := (first | omega | (simp only [okR]; done) | (simp only [sizeR] <;> omega) | fail)) only [↓preR, postR, ↓w_stop, Nat.reduceEqDiff, Nat.reduceAdd, Nat.reduceSub, Nat.reduceMul, Int.reduceNeg, Nat.reduceLT, Int.reduceToNat, Nat.reduceLeDiff, Nat.sub_zero, ex])
    exact hk'
  have ed : ((!x.2.2.1 && !x.2.2.2.1) && !x.2.2.2.2) = !(x.2.2.1 || x.2.2.2.1 || x.2.2.2.2) := by
    cases x.2.2.1 <;> cases x.2.2.2.1 <;> cases x.2.2.2.2 <;> rfl
  rw [ed]
  generalize hd0 : (!(x.2.2.1 || x.2.2.2.1 || x.2.2.2.2)) = d0 at hk ⊢
  clear ed hd0
  generalize AS.new σ _ = s1 at h1 ⊢
  generalize σ.n = q at h1 ⊢
  clear ex
  have hlen := put_len x (L := L) (d := d0)
  (try simp (maxSteps := 1000000) (dsimp := false) (disch := (first | omega | (simp only [okR]; done) | (simp only [sizeR] <;> omega) | fail)) only [↓preR, postR, ↓w_stop, Nat.reduceEqDiff, Nat.reduceAdd, Nat.reduceSub, Nat.reduceMul, Int.reduceNeg, Nat.reduceLT, Int.reduceToNat, Nat.reduceLeDiff, Nat.sub_zero])
  refine join_by fun J hJ => ?_
  have tail : ∀ (s2 : AS) (u : Value) (d : Bool) (acc : List FV), Hs s2 X (E.Own (α := FV) u acc :: VarR lv L :: Cel r [lv, .string (bs zero), av, .int .i64 st] :: Cel q (celF x) :: R) → acc ++ putF x d [] = putF x d0 L → J [u, .bool d] s2 := by
    intro s2 u d acc h2 hacc
    refine hJ _ _ ?_
    clear hJ
    (try simp (maxSteps := 1000000) (dsimp := false) (disch := (first | omega | (simp only [okR]; done) | (simp only [sizeR] <;> omega) | fail)) only [↓preR, postR, ↓w_stop, Nat.reduceEqDiff, Nat.reduceAdd, Nat.reduceSub, Nat.reduceMul, Int.reduceNeg, Nat.reduceLT, Int.reduceToNat, Nat.reduceLeDiff, Nat.sub_zero])
    refine join_by fun J2 hJ2 => ?_
    have tail2 : ∀ (s3 : AS) (u : Value), Hs s3 X (E.Own (α := FV) u (putF x d0 L) :: VarR lv L :: Cel r [lv, .string (bs zero), av, .int .i64 st] :: Cel q (celF x) :: R) → J2 [u] s3 := by
      intro s3 u h3
      refine hJ2 _ _ ?_
      have h4 := (h3.front 2 rfl)
      obtain ⟨vx, vc, rfl, _⟩ := h3.own
      (simp (maxSteps := 1000000) (dsimp := false) (disch := (first | omega | (simp only [okR]; done) | (simp only [sizeR] <;> omega) | fail)) only [↓preR, postR, ↓w_join, Nat.reduceEqDiff, Nat.reduceAdd, Nat.reduceSub, Nat.reduceMul, Int.reduceNeg, Nat.reduceLT, Int.reduceToNat, Nat.reduceLeDiff, Nat.sub_zero, h4.obj])
      have h5 := h4.put (cs' := [.slice vx (putF x d0 L).length vc, .string (bs zero), av, .int .i64 st])
      exact hk _ _ _ ((VarR.own (h5.front 1 rfl)).rot3.drop.rot2.drop)
    clear hJ2
    cases d with
    | true =>
      simp only [putF, if_true, List.append_nil] at hacc
      subst hacc
      (try simp (maxSteps := 1000000) (dsimp := false) (disch := (first | omega | (simp only [okR]; done) | (simp only [sizeR] <;> omega) | fail)) only [↓preR, postR, ↓w_stop, Nat.reduceEqDiff, Nat.reduceAdd, Nat.reduceSub, Nat.reduceMul, Int.reduceNeg, Nat.reduceLT, Int.reduceToNat, Nat.reduceLeDiff, Nat.sub_zero])
      exact tail2 _ _ h2
    | false =>
      simp only [putF, Bool.false_eq_true, if_false] at hacc
      have hal : acc.length + 1 ≤ L.length + 1 := by rw [← hacc, List.length_append] at hlen; simpa using hlen
      have ex := (h2.front 3 rfl).obj
      (try simp (maxSteps := 1000000) (dsimp := false) (disch := (first | omega | (simp only [okR]; done) | (simp only [sizeR] <;> omega) | fail)) only [↓preR, postR, ↓w_stop, Nat.reduceEqDiff, Nat.reduceAdd, Nat.reduceSub, Nat.reduceMul, Int.reduceNeg, Nat.reduceLT, Int.reduceToNat, Nat.reduceLeDiff, Nat.sub_zero, ex])
      refine push_by h2 (e := 64) (bytes := 40) (by kernel_rfl) (by kernel_rfl) (rp_fv hx) (by omega) (by unfold maxLen; omega) fun v' s3 h3 => ?_
      rw [hacc] at h3
      exact tail2 _ _ h3
  clear hJ
  refine loop_inv (fun nn xs s2 => ∃ (u : Value) (d : Bool) (j : Nat) (acc : List FV), xs = [u, .bool d, .int .i64 j] ∧ j ≤ L.length ∧ Hs s2 X (E.Own (α := FV) u acc :: VarR lv L :: Cel r [lv, .string (bs zero), av, .int .i64 st] :: Cel q (celF x) :: R) ∧ acc ++ putF x d (L.drop j) = putF x d0 L ∧ nn = L.length - j) _
    ⟨_, _, 0, [], rfl, Nat.zero_le _, h1.own0, rfl, rfl⟩ ?_
  rintro _ _ s2 again ⟨u, d, j, acc, rfl, hj, h2, hacc, rfl⟩ hag
  have er := (h2.front 2 rfl).obj
  obtain ⟨a, g, o, cap, rfl, hc, hm, hat⟩ := VarR.get (h2.front 1 rfl)
  unfold maxLen at hm
  (try simp (maxSteps := 1000000) (dsimp := false) (disch := (first | omega | (simp only [okR]; done) | (simp only [sizeR] <;> omega) | fail)) only [↓preR, postR, ↓w_stop, Nat.reduceEqDiff, Nat.reduceAdd, Nat.reduceSub, Nat.reduceMul, Int.reduceNeg, Nat.reduceLT, Int.reduceToNat, Nat.reduceLeDiff, Nat.sub_zero, er])
  refine join_now ?_
  by_cases hlt : j < L.length
  rotate_left
  · (try simp (maxSteps := 1000000) (dsimp := false) (disch := (first | omega | (simp only [okR]; done) | (simp only [sizeR] <;> omega) | fail)) only [↓preR, postR, ↓w_stop, Nat.reduceEqDiff, Nat.reduceAdd, Nat.reduceSub, Nat.reduceMul, Int.reduceNeg, Nat.reduceLT, Int.reduceToNat, Nat.reduceLeDiff, Nat.sub_zero, er])
    rw [List.drop_of_length_le (by omega)] at hacc
    exact tail s2 _ _ acc h2 hacc
  obtain ⟨rfl, c⟩ := hat j hlt
  have c0 := c 0 _ rfl
  rw [Nat.add_zero] at c0
  rw [List.drop_eq_getElem_cons hlt] at hacc
  simp only [putF] at hacc
  (try simp (maxSteps := 1000000) (dsimp := false) (disch := (first | omega | (simp only [okR]; done) | (simp only [sizeR] <;> omega) | fail)) only [↓preR, postR, ↓w_stop, Nat.reduceEqDiff, Nat.reduceAdd, Nat.reduceSub, Nat.reduceMul, Int.reduceNeg, Nat.reduceLT, Int.reduceToNat, Nat.reduceLeDiff, Nat.sub_zero, er])
  refine join_by fun J5 hJ5 => ?_
  have tail5 : ∀ (s3 : AS) (u : Value) (d : Bool) (acc : List FV), Hs s3 X (E.Own (α := FV) u acc :: VarR (.slice (some ⟨g, o, none⟩) L.length cap) L :: Cel r [.slice (some ⟨g, o, none⟩) L.length cap, .string (bs zero), av, .int .i64 st] :: Cel q (celF x) :: R) → acc ++ putF x d (L.drop (j + 1)) = putF x d0 L → J5 [u, .bool d] s3 := by
    intro s3 u d acc h3 hacc3
    refine hJ5 _ _ ?_
    (try simp (maxSteps := 1000000) (dsimp := false) (disch := (first | omega | (simp only [okR]; done) | (simp only [sizeR] <;> omega) | fail)) only [↓preR, postR, ↓w_stop, Nat.reduceEqDiff, Nat.reduceAdd, Nat.reduceSub, Nat.reduceMul, Int.reduceNeg, Nat.reduceLT, Int.reduceToNat, Nat.reduceLeDiff, Nat.sub_zero])
    exact hag _ _ _ ⟨u, d, j + 1, acc, rfl, hlt, h3, hacc3, rfl⟩ (by omega)
  clear hJ5
  (try simp (maxSteps := 1000000) (dsimp := false) (disch := (first | omega | (simp only [okR]; done) | (simp only [sizeR] <;> omega) | fail)) only [↓preR, postR, ↓w_stop, Nat.reduceEqDiff, Nat.reduceAdd, Nat.reduceSub, Nat.reduceMul, Int.reduceNeg, Nat.reduceLT, Int.reduceToNat, Nat.reduceLeDiff, Nat.sub_zero])
  refine join_by fun J6 hJ6 => ?_
  have tail6 : ∀ (s3 : AS) (u : Value) (d : Bool) (acc : List FV), Hs s3 X (E.Own (α := FV) u acc :: VarR (.slice (some ⟨g, o, none⟩) L.length cap) L :: Cel r [.slice (some ⟨g, o, none⟩) L.length cap, .string (bs zero), av, .int .i64 st] :: Cel q (celF x) :: R) → acc ++ ((if L[j].1 = x.1 then [] else [L[j]]) ++ putF x d (L.drop (j + 1))) = putF x d0 L → J6 [u, .bool d] s3 := by
    intro s3 u d acc h3 hacc3
    refine hJ6 _ _ ?_
    clear hJ6
    have er := (h3.front 2 rfl).obj
    have ex := (h3.front 3 rfl).obj
    obtain ⟨a', g', o', cap', e1, _, _, hat'⟩ := VarR.get (h3.front 1 rfl)
    obtain ⟨rfl, c⟩ := hat' j hlt
    injection e1 with e2 _ _
    injection e2 with e2
    injection e2 with e3 e4 _
    subst e3
    subst e4
    have c0 := c 0 _ rfl
    have c1 := c 1 _ rfl
    have c2 := c 2 _ rfl
    have c3 := c 3 _ rfl
    have c4 := c 4 _ rfl
    rw [Nat.add_zero] at c0
    by_cases hn : L[j].1 = x.1
    · have hT : (L[j].1 = x.1) = True := eq_true hn
      rw [if_pos hn, List.nil_append] at hacc3
      (try simp (maxSteps := 1000000) (dsimp := false) (disch := (first | omega | (simp only [okR]; done) | (simp only [sizeR] <;> omega) | fail)) only [↓preR, postR, ↓w_stop, Nat.reduceEqDiff, Nat.reduceAdd, Nat.reduceSub, Nat.reduceMul, Int.reduceNeg, Nat.reduceLT, Int.reduceToNat, Nat.reduceLeDiff, Nat.sub_zero, er, ex, c0, hT])
      exact tail5 _ _ _ acc h3 hacc3
    · rw [if_neg hn] at hacc3
      (try simp (maxSteps := 1000000) (dsimp := false) (disch := (first | omega | (simp only [okR]; done) | (simp only [sizeR] <;> omega) | fail)) only [↓preR, postR, ↓w_stop, Nat.reduceEqDiff, Nat.reduceAdd, Nat.reduceSub, Nat.reduceMul, Int.reduceNeg, Nat.reduceLT, Int.reduceToNat, Nat.reduceLeDiff, Nat.sub_zero, er, ex, c0, c1, c2, c3, c4, hn])
      have hal : acc.length + 1 ≤ L.length + 1 := by rw [← hacc3] at hlen; simp at hlen; omega
      refine push_by h3 (e := 64) (bytes := 40) (by kernel_rfl) (by kernel_rfl) (rp_fv (hok _ (List.getElem_mem hlt))) (by omega) (by unfold maxLen; omega) fun v' s4 h4 => ?_
      refine tail5 _ _ _ (acc ++ [L[j]]) h4 ?_
      rw [← hacc3]
      simp
  clear hJ6
  have ex := (h2.front 3 rfl).obj
  (try simp (maxSteps := 1000000) (dsimp := false) (disch := (first | omega | (simp only [okR]; done) | (simp only [sizeR] <;> omega) | fail)) only [↓preR, postR, ↓w_stop, Nat.reduceEqDiff, Nat.reduceAdd, Nat.reduceSub, Nat.reduceMul, Int.reduceNeg, Nat.reduceLT, Int.reduceToNat, Nat.reduceLeDiff, Nat.sub_zero])
  refine grd_and (b := gtS L[j].1 x.1) (fun _ k' hk' => ?_) ?_
  · (try simp (maxSteps := 1000000) (dsimp := false) (disch := (first | omega | (simp only [okR]; done) | (simp only [sizeR] <;> omega) | fail)) only [↓preR, postR, ↓w_stop, Nat.reduceEqDiff, Nat.reduceAdd, Nat.reduceSub, Nat.reduceMul, Int.reduceNeg, Nat.reduceLT, Int.reduceToNat, Nat.reduceLeDiff, Nat.sub_zero, er, ex, c0, b_sgt])
    exact hk'
  generalize hb : (!d && gtS L[j].1 x.1) = bb at hacc ⊢
  cases bb with
  | true =>
    have hg : gtS L[j].1 x.1 = true := by
      cases hg : gtS L[j].1 x.1 with
      | true => rfl
      | false => rw [hg] at hb; simp at hb
    rw [hg] at hacc
    simp only [Bool.or_true, if_true] at hacc
    (try simp (maxSteps := 1000000) (dsimp := false) (disch := (first | omega | (simp only [okR]; done) | (simp only [sizeR] <;> omega) | fail)) only [↓preR, postR, ↓w_stop, Nat.reduceEqDiff, Nat.reduceAdd, Nat.reduceSub, Nat.reduceMul, Int.reduceNeg, Nat.reduceLT, Int.reduceToNat, Nat.reduceLeDiff, Nat.sub_zero, ex])
    have hal : acc.length + 1 ≤ L.length + 1 := by rw [← hacc] at hlen; simp at hlen; omega
    refine push_by h2 (e := 64) (bytes := 40) (by kernel_rfl) (by kernel_rfl) (rp_fv hx) (by omega) (by unfold maxLen; omega) fun v' s4 h4 => ?_
    refine tail6 _ _ _ (acc ++ [x]) h4 ?_
    rw [← hacc]
    simp
  | false =>
    simp only [Bool.false_eq_true, if_false, List.nil_append] at hacc
    have hd : (d || gtS L[j].1 x.1) = d := by
      cases d with
      | true => rfl
      | false => simpa using hb
    rw [hd] at hacc
    (try simp (maxSteps := 1000000) (dsimp := false) (disch := (first | omega | (simp only [okR]; done) | (simp only [sizeR] <;> omega) | fail)) only [↓preR, postR, ↓w_stop, Nat.reduceEqDiff, Nat.reduceAdd, Nat.reduceSub, Nat.reduceMul, Int.reduceNeg, Nat.reduceLT, Int.reduceToNat, Nat.reduceLeDiff, Nat.sub_zero])
    exact tail6 _ _ _ acc h2 hacc
end
end Go.Proofs.YtpnefcapiiemdaaGreatDoor
