/- Whether a text has a _, a + or a -. Conditions: as each theorem says. -/
import Derived.Test.YtkbpbagjbjkpmaaGreatDoorIx
import Derived.Test.YtkbpbagjbjkpmaaGreatDoorStr
import Derived.Test.YtkbpbagjbjkpmaaGreatDoorLb
import Derived.Lib.AtoiErrMem
import Derived.Test.YtkbpbagjbjkpmaaGreatDoorArA
import Derived.Test.YtkbpbagjbjkpmaaGreatDoorIf
import Derived.Test.YtkbpbagjbjkpmaaGreatDoorGd
namespace Go.Proofs.YtkbpbagjbjkpmaaGreatDoor
open E Go.Lib
set_option linter.unusedVariables false
set_option linter.unusedSimpArgs false
set_option maxHeartbeats 1000000
set_option maxRecDepth 20000

abbrev n3 : Str := [95, 43, 45]
/-- No byte of these in an ASCII text. -/
def CleanN (s : Str) : Prop := ∀ c, c ∈ s → c.toNat < 128 ∧ c ∉ n3
theorem bs_at {s : Str} {i : Nat} (h : i < (bs s).size) (h2 : i < s.length) : (bs s)[i] = s[i] := by
  have := Go.Lib.data_getElem? (bs s) i h
  have e : (bs s).data.toList = s := by simp [bs]
  rw [e, List.getElem?_eq_getElem h2] at this
  exact (Option.some.inj this).symm
theorem nxtA_by {P : Program} {K : Value → AS → Prop} {σ : AS} {X : Ce} {R : List Ck} {q pos : Nat} {s : Str} {ty : TypeId} (h : Hs σ X (Oth q (.stringIter (bs s) pos) :: R)) (hdone : s.length ≤ pos → K (.tuple #[.bool false]) σ)
    (hnext : ∀ (r : Int) (pos' : Nat) σ', (hp : pos < s.length) → pos < pos' → 0 ≤ r → r ≤ 2147483647 → ((s[pos]).toNat < 128 → r = (s[pos]).toNat ∧ pos' = pos + 1) → Hs σ' X (Oth q (.stringIter (bs s) pos') :: R) → K (.tuple #[.bool true, .int .i64 pos, .int .i32 r]) σ') :
    kGen P (.nxt true ty) [.pointer (some ⟨q, 0, none⟩)] σ K := by
  have hm := h.oth
  intro w hw
  have hh : w.heap[q]? = some (.stringIter (bs s) pos) := hw.m q _ hm
  have hsz : (bs s).size = s.length := bs_size s
  by_cases hp : pos < (bs s).size
  · refine ⟨_, _, run_next_any_at w q (bs s) pos ty hh hp, ?_⟩
    have h1 : 1 ≤ (Utf8.decode (bs s) pos).2 := by
      by_cases ha : ((bs s)[pos]'hp).toNat < 128
      · rw [decode_ascii _ _ hp ha]; exact Nat.le_refl _
      · exact (decode_high _ _ hp (by omega)).2
    refine out_set hw hm (hnext _ (pos + (Utf8.decode (bs s) pos).2) _ (by omega) (by omega) (by omega) (by have := decode_le (bs s) pos; omega) (fun ha => ?_) ?_)
    · have hb : (bs s)[pos]'hp = s[pos]'(by omega) := bs_at hp (by omega)
      rw [← hb] at ha
      rw [decode_ascii _ _ hp ha]
      exact ⟨congrArg (fun c : UInt8 => (c.toNat : Int)) hb, rfl⟩
    exact h.putX
  · exact ⟨_, _, run_next_end_at w q (bs s) pos ty hh hp, Out.same hw (hdone (by omega))⟩
section
variable {σ σ' : AS} {X : Ce} {R : List Ck} {k : Value → AS → Prop} {s : Str} {c : UInt8} {i : Nat} {r : Int}
theorem runn_c (hr0 : 0 ≤ r) (hr1 : r ≤ 2147483647) (h : Hs σ X R) (hk : ∀ (n : Int) σ', (∀ c : UInt8, r = c.toNat → c.toNat < 128 → c ∉ n3 → n = -1) → Hs σ' X R → k (.int .i64 n) σ') : kCall Tryz.prog 91 [.string (bs n3), .int .i32 r] σ k := by
  refine f91 ?_
  (try simp (maxSteps := 1000000) (dsimp := false) (disch := (first | omega | (simp only [okR]; done) | (simp only [sizeR] <;> omega) | fail)) only [↓preR, postR, ↓w_stop, Nat.reduceEqDiff, Nat.reduceAdd, Nat.reduceSub, Nat.reduceMul, Int.reduceNeg, Nat.reduceLT, Int.reduceToNat, Nat.reduceLeDiff, Nat.sub_zero, F91])
  by_cases hlt : r < 128
  · have hw : IntKind.u8.wrap r = ((UInt8.ofNat r.toNat).toNat : Int) := by
      rw [wrapU8 r hr0 (by omega)]
      simp
      omega
    (try simp (maxSteps := 1000000) (dsimp := false) (disch := (first | omega | (simp only [okR]; done) | (simp only [sizeR] <;> omega) | fail)) only [↓preR, postR, ↓w_stop, Nat.reduceEqDiff, Nat.reduceAdd, Nat.reduceSub, Nat.reduceMul, Int.reduceNeg, Nat.reduceLT, Int.reduceToNat, Nat.reduceLeDiff, Nat.sub_zero, hlt, hw])
    refine idx_c rfl ?_
    have hno : ∀ c : UInt8, r = c.toNat → c.toNat < 128 → c ∉ n3 → posB (UInt8.ofNat r.toNat) n3 = none := fun c e _ hc => pos_no fun x hx he => by
      have e2 : UInt8.ofNat r.toNat = c := by subst e; simp
      exact hc (by rw [← e2, ← he]; exact hx)
    cases hp : posB (UInt8.ofNat r.toNat) n3 with
    | none => (try simp (maxSteps := 1000000) (dsimp := false) (disch := (first | omega | (simp only [okR]; done) | (simp only [sizeR] <;> omega) | fail)) only [↓preR, postR, ↓w_stop, Nat.reduceEqDiff, Nat.reduceAdd, Nat.reduceSub, Nat.reduceMul, Int.reduceNeg, Nat.reduceLT, Int.reduceToNat, Nat.reduceLeDiff, Nat.sub_zero]); exact hk _ _ (fun _ _ _ _ => rfl) h
    | some n => (try simp (maxSteps := 1000000) (dsimp := false) (disch := (first | omega | (simp only [okR]; done) | (simp only [sizeR] <;> omega) | fail)) only [↓preR, postR, ↓w_stop, Nat.reduceEqDiff, Nat.reduceAdd, Nat.reduceSub, Nat.reduceMul, Int.reduceNeg, Nat.reduceLT, Int.reduceToNat, Nat.reduceLeDiff, Nat.sub_zero]); exact hk _ _ (fun c e h1 h2 => by have := hno c e h1 h2; rw [hp] at this; cases this) h
  have hbig : ∀ n : Int, ∀ c : UInt8, r = c.toNat → c.toNat < 128 → c ∉ n3 → n = -1 := fun n c e h1 _ => by omega
  by_cases he : r = 65533
  · (try simp (maxSteps := 1000000) (dsimp := false) (disch := (first | omega | (simp only [okR]; done) | (simp only [sizeR] <;> omega) | fail)) only [↓preR, postR, ↓w_stop, Nat.reduceEqDiff, Nat.reduceAdd, Nat.reduceSub, Nat.reduceMul, Int.reduceNeg, Nat.reduceLT, Int.reduceToNat, Nat.reduceLeDiff, Nat.sub_zero, hlt, he])
    refine join_now ?_
    (try simp (maxSteps := 1000000) (dsimp := false) (disch := (first | omega | (simp only [okR]; done) | (simp only [sizeR] <;> omega) | fail)) only [↓preR, postR, ↓w_stop, Nat.reduceEqDiff, Nat.reduceAdd, Nat.reduceSub, Nat.reduceMul, Int.reduceNeg, Nat.reduceLT, Int.reduceToNat, Nat.reduceLeDiff, Nat.sub_zero])
    refine rngS_by Tryz.underlying9 h fun s1 h1 => ?_
    generalize σ.n = q at h1 ⊢
    (try simp (maxSteps := 1000000) (dsimp := false) (disch := (first | omega | (simp only [okR]; done) | (simp only [sizeR] <;> omega) | fail)) only [↓preR, postR, ↓w_stop, Nat.reduceEqDiff, Nat.reduceAdd, Nat.reduceSub, Nat.reduceMul, Int.reduceNeg, Nat.reduceLT, Int.reduceToNat, Nat.reduceLeDiff, Nat.sub_zero])
    refine loop_inv (fun nn xs s2 => ∃ pos : Nat, Hs s2 X (Oth q (.stringIter (bs n3) pos) :: R) ∧ nn = n3.length - pos) _ ⟨0, h1, rfl⟩ ?_
    rintro _ _ s2 again ⟨pos, h2, rfl⟩ hag
    (try simp (maxSteps := 1000000) (dsimp := false) (disch := (first | omega | (simp only [okR]; done) | (simp only [sizeR] <;> omega) | fail)) only [↓preR, postR, ↓w_stop, Nat.reduceEqDiff, Nat.reduceAdd, Nat.reduceSub, Nat.reduceMul, Int.reduceNeg, Nat.reduceLT, Int.reduceToNat, Nat.reduceLeDiff, Nat.sub_zero])
    refine nxtS_by h2 (fun _ => ?_) (fun r' pos' s3 hp hp' h0' h1' h3 => ?_)
    · (try simp (maxSteps := 1000000) (dsimp := false) (disch := (first | omega | (simp only [okR]; done) | (simp only [sizeR] <;> omega) | fail)) only [↓preR, postR, ↓w_stop, Nat.reduceEqDiff, Nat.reduceAdd, Nat.reduceSub, Nat.reduceMul, Int.reduceNeg, Nat.reduceLT, Int.reduceToNat, Nat.reduceLeDiff, Nat.sub_zero])
      refine join_now ?_
      (try simp (maxSteps := 1000000) (dsimp := false) (disch := (first | omega | (simp only [okR]; done) | (simp only [sizeR] <;> omega) | fail)) only [↓preR, postR, ↓w_stop, Nat.reduceEqDiff, Nat.reduceAdd, Nat.reduceSub, Nat.reduceMul, Int.reduceNeg, Nat.reduceLT, Int.reduceToNat, Nat.reduceLeDiff, Nat.sub_zero])
      exact hk _ _ (hbig _) h2.drop
    · (try simp (maxSteps := 1000000) (dsimp := false) (disch := (first | omega | (simp only [okR]; done) | (simp only [sizeR] <;> omega) | fail)) only [↓preR, postR, ↓w_stop, Nat.reduceEqDiff, Nat.reduceAdd, Nat.reduceSub, Nat.reduceMul, Int.reduceNeg, Nat.reduceLT, Int.reduceToNat, Nat.reduceLeDiff, Nat.sub_zero])
      refine join_now ?_
      by_cases hr : r' = 65533
      · (try simp (maxSteps := 1000000) (dsimp := false) (disch := (first | omega | (simp only [okR]; done) | (simp only [sizeR] <;> omega) | fail)) only [↓preR, postR, ↓w_stop, Nat.reduceEqDiff, Nat.reduceAdd, Nat.reduceSub, Nat.reduceMul, Int.reduceNeg, Nat.reduceLT, Int.reduceToNat, Nat.reduceLeDiff, Nat.sub_zero, hr])
        exact hk _ _ (hbig _) h3.drop
      · (try simp (maxSteps := 1000000) (dsimp := false) (disch := (first | omega | (simp only [okR]; done) | (simp only [sizeR] <;> omega) | fail)) only [↓preR, postR, ↓w_stop, Nat.reduceEqDiff, Nat.reduceAdd, Nat.reduceSub, Nat.reduceMul, Int.reduceNeg, Nat.reduceLT, Int.reduceToNat, Nat.reduceLeDiff, Nat.sub_zero, hr])
        exact hag _ _ _ ⟨pos', h3, rfl⟩ (by omega)
  (try simp (maxSteps := 1000000) (dsimp := false) (disch := (first | omega | (simp only [okR]; done) | (simp only [sizeR] <;> omega) | fail)) only [↓preR, postR, ↓w_stop, Nat.reduceEqDiff, Nat.reduceAdd, Nat.reduceSub, Nat.reduceMul, Int.reduceNeg, Nat.reduceLT, Int.reduceToNat, Nat.reduceLeDiff, Nat.sub_zero, hlt, he])
  refine f107 ?_
  have hsplit : Utf8.valid r = (decide (r < 55296) || (decide (57344 ≤ r) && decide (r ≤ 1114111))) := by
    unfold Utf8.valid
    simp [hr0]
  by_cases hv : Utf8.valid r = true
  rotate_left
  · rw [hsplit] at hv
    simp at hv
    have v1 : ¬ r < 55296 := by omega
    have v2 : ¬ (57343 < r ∧ r ≤ 1114111) := by omega
    by_cases v3 : 57343 < r
    · have v4 : ¬ r ≤ 1114111 := by omega
      (try simp (maxSteps := 1000000) (dsimp := false) (disch := (first | omega | (simp only [okR]; done) | (simp only [sizeR] <;> omega) | fail)) only [↓preR, postR, ↓w_stop, Nat.reduceEqDiff, Nat.reduceAdd, Nat.reduceSub, Nat.reduceMul, Int.reduceNeg, Nat.reduceLT, Int.reduceToNat, Nat.reduceLeDiff, Nat.sub_zero, F107])
      refine join_now ?_
      (try simp (maxSteps := 1000000) (dsimp := false) (disch := (first | omega | (simp only [okR]; done) | (simp only [sizeR] <;> omega) | fail)) only [↓preR, postR, ↓w_stop, Nat.reduceEqDiff, Nat.reduceAdd, Nat.reduceSub, Nat.reduceMul, Int.reduceNeg, Nat.reduceLT, Int.reduceToNat, Nat.reduceLeDiff, Nat.sub_zero, v1, v3, v4])
      exact hk _ _ (hbig _) h
    · (try simp (maxSteps := 1000000) (dsimp := false) (disch := (first | omega | (simp only [okR]; done) | (simp only [sizeR] <;> omega) | fail)) only [↓preR, postR, ↓w_stop, Nat.reduceEqDiff, Nat.reduceAdd, Nat.reduceSub, Nat.reduceMul, Int.reduceNeg, Nat.reduceLT, Int.reduceToNat, Nat.reduceLeDiff, Nat.sub_zero, F107])
      refine join_now ?_
      (try simp (maxSteps := 1000000) (dsimp := false) (disch := (first | omega | (simp only [okR]; done) | (simp only [sizeR] <;> omega) | fail)) only [↓preR, postR, ↓w_stop, Nat.reduceEqDiff, Nat.reduceAdd, Nat.reduceSub, Nat.reduceMul, Int.reduceNeg, Nat.reduceLT, Int.reduceToNat, Nat.reduceLeDiff, Nat.sub_zero, v1, v3])
      exact hk _ _ (hbig _) h
  · have hv' := hv
    rw [hsplit] at hv'
    simp at hv'
    have go : ∀ k2 : Value → AS → Prop, k2 (.bool true) σ → F107 (.int .i32 r) σ k2 := by
      intro k2 hk2
      by_cases v1 : r < 55296
      · (try simp (maxSteps := 1000000) (dsimp := false) (disch := (first | omega | (simp only [okR]; done) | (simp only [sizeR] <;> omega) | fail)) only [↓preR, postR, ↓w_stop, Nat.reduceEqDiff, Nat.reduceAdd, Nat.reduceSub, Nat.reduceMul, Int.reduceNeg, Nat.reduceLT, Int.reduceToNat, Nat.reduceLeDiff, Nat.sub_zero, F107])
        refine join_now ?_
        (try simp (maxSteps := 1000000) (dsimp := false) (disch := (first | omega | (simp only [okR]; done) | (simp only [sizeR] <;> omega) | fail)) only [↓preR, postR, ↓w_stop, Nat.reduceEqDiff, Nat.reduceAdd, Nat.reduceSub, Nat.reduceMul, Int.reduceNeg, Nat.reduceLT, Int.reduceToNat, Nat.reduceLeDiff, Nat.sub_zero, v1])
        exact hk2
      · have v3 : 57343 < r := by omega
        have v4 : r ≤ 1114111 := by omega
        (try simp (maxSteps := 1000000) (dsimp := false) (disch := (first | omega | (simp only [okR]; done) | (simp only [sizeR] <;> omega) | fail)) only [↓preR, postR, ↓w_stop, Nat.reduceEqDiff, Nat.reduceAdd, Nat.reduceSub, Nat.reduceMul, Int.reduceNeg, Nat.reduceLT, Int.reduceToNat, Nat.reduceLeDiff, Nat.sub_zero, F107])
        refine join_now ?_
        (try simp (maxSteps := 1000000) (dsimp := false) (disch := (first | omega | (simp only [okR]; done) | (simp only [sizeR] <;> omega) | fail)) only [↓preR, postR, ↓w_stop, Nat.reduceEqDiff, Nat.reduceAdd, Nat.reduceSub, Nat.reduceMul, Int.reduceNeg, Nat.reduceLT, Int.reduceToNat, Nat.reduceLeDiff, Nat.sub_zero, v1, v3, v4])
        exact hk2
    refine go _ ?_
    (try simp (maxSteps := 1000000) (dsimp := false) (disch := (first | omega | (simp only [okR]; done) | (simp only [sizeR] <;> omega) | fail)) only [↓preR, postR, ↓w_stop, Nat.reduceEqDiff, Nat.reduceAdd, Nat.reduceSub, Nat.reduceMul, Int.reduceNeg, Nat.reduceLT, Int.reduceToNat, Nat.reduceLeDiff, Nat.sub_zero])
    refine cvr_by (by kernel_rfl) Tryz.underlying9 hv (by omega) fun l h2 h4 hlast => ?_
    obtain ⟨c, hc⟩ : ∃ c, l[l.length - 1]? = some c := ⟨_, List.getElem?_eq_getElem (by omega)⟩
    have hc1 := hlast c hc
    (try simp (maxSteps := 1000000) (dsimp := false) (disch := (first | omega | (simp only [okR]; done) | (simp only [sizeR] <;> omega) | fail)) only [↓preR, postR, ↓w_stop, Nat.reduceEqDiff, Nat.reduceAdd, Nat.reduceSub, Nat.reduceMul, Int.reduceNeg, Nat.reduceLT, Int.reduceToNat, Nat.reduceLeDiff, Nat.sub_zero])
    refine join_now ?_
    refine loop_inv (fun nn xs s2 => xs = [.int .i64 ((l.length - 1 : Nat) : Int), .int .i64 0] ∧ σ = s2 ∧ nn = 0) _ ⟨by
      have : ((l.length : Int) - 1) = ((l.length - 1 : Nat) : Int) := by omega
      rw [this], rfl, rfl⟩ ?_
    rintro _ _ s2 again ⟨rfl, rfl, rfl⟩ hag
    (try simp (maxSteps := 1000000) (dsimp := false) (disch := (first | omega | (simp only [okR]; done) | (simp only [sizeR] <;> omega) | fail)) only [↓preR, postR, ↓w_stop, Nat.reduceEqDiff, Nat.reduceAdd, Nat.reduceSub, Nat.reduceMul, Int.reduceNeg, Nat.reduceLT, Int.reduceToNat, Nat.reduceLeDiff, Nat.sub_zero])
    refine join_now ?_
    by_cases h3 : l.length - 1 < 3
    rotate_left
    · (try simp (maxSteps := 1000000) (dsimp := false) (disch := (first | omega | (simp only [okR]; done) | (simp only [sizeR] <;> omega) | fail)) only [↓preR, postR, ↓w_stop, Nat.reduceEqDiff, Nat.reduceAdd, Nat.reduceSub, Nat.reduceMul, Int.reduceNeg, Nat.reduceLT, Int.reduceToNat, Nat.reduceLeDiff, Nat.sub_zero])
      refine join_now ?_
      (try simp (maxSteps := 1000000) (dsimp := false) (disch := (first | omega | (simp only [okR]; done) | (simp only [sizeR] <;> omega) | fail)) only [↓preR, postR, ↓w_stop, Nat.reduceEqDiff, Nat.reduceAdd, Nat.reduceSub, Nat.reduceMul, Int.reduceNeg, Nat.reduceLT, Int.reduceToNat, Nat.reduceLeDiff, Nat.sub_zero])
      exact hk _ _ (hbig _) h
    have hlq : ((n3[l.length - 1]?).getD 0).toNat < 128 := by
      have : l.length - 1 = 0 ∨ l.length - 1 = 1 ∨ l.length - 1 = 2 := by omega
      rcases this with e | e | e <;> rw [e] <;> decide
    have hcd : (l[l.length - 1]?).getD 0 = c := by rw [hc]; rfl
    have hne : ¬ (((n3[l.length - 1]?).getD 0).toNat : Int) = (((l[l.length - 1]?).getD 0).toNat : Int) := by rw [hcd]; omega
    have e1 : ((l.length : Int) - 1) = ((l.length - 1 : Nat) : Int) := by omega
    (try simp (maxSteps := 1000000) (dsimp := false) (disch := (first | omega | (simp only [okR]; done) | (simp only [sizeR] <;> omega) | fail)) only [↓preR, postR, ↓w_stop, Nat.reduceEqDiff, Nat.reduceAdd, Nat.reduceSub, Nat.reduceMul, Int.reduceNeg, Nat.reduceLT, Int.reduceToNat, Nat.reduceLeDiff, Nat.sub_zero, e1])
    refine join_by fun J hJ => ?_
    (try simp (maxSteps := 1000000) (dsimp := false) (disch := (first | omega | (simp only [okR]; done) | (simp only [sizeR] <;> omega) | fail)) only [↓preR, postR, ↓w_stop, Nat.reduceEqDiff, Nat.reduceAdd, Nat.reduceSub, Nat.reduceMul, Int.reduceNeg, Nat.reduceLT, Int.reduceToNat, Nat.reduceLeDiff, Nat.sub_zero, e1, hne, hcd])
    refine idx_c rfl ?_
    rw [pos_no fun x hx => by
      have hx := List.mem_of_mem_drop (List.mem_of_mem_take hx)
      simp at hx
      rintro rfl
      rcases hx with e | e <;> rw [e] at hc1 <;> revert hc1 <;> decide]
    (try simp (maxSteps := 1000000) (dsimp := false) (disch := (first | omega | (simp only [okR]; done) | (simp only [sizeR] <;> omega) | fail)) only [↓preR, postR, ↓w_stop, Nat.reduceEqDiff, Nat.reduceAdd, Nat.reduceSub, Nat.reduceMul, Int.reduceNeg, Nat.reduceLT, Int.reduceToNat, Nat.reduceLeDiff, Nat.sub_zero])
    refine join_now ?_
    (try simp (maxSteps := 1000000) (dsimp := false) (disch := (first | omega | (simp only [okR]; done) | (simp only [sizeR] <;> omega) | fail)) only [↓preR, postR, ↓w_stop, Nat.reduceEqDiff, Nat.reduceAdd, Nat.reduceSub, Nat.reduceMul, Int.reduceNeg, Nat.reduceLT, Int.reduceToNat, Nat.reduceLeDiff, Nat.sub_zero])
    exact hk _ _ (hbig _) h
theorem mkn_c (h : Hs σ X R) (hk : ∀ (L : List Value) σ', L.length = 256 → L.all okCell = true → (∀ v, v ∈ L → ∃ b, v = .bool b) → (∀ c : UInt8, c ∉ n3 → L[c.toNat]? = some (.bool false)) → Hs σ' X R → k (.tuple #[.agg L.toArray, .bool true]) σ') : kCall Tryz.prog 26 [.string (bs n3)] σ k := by
  refine f26 ?_
  obtain ⟨Z, hZ⟩ : ∃ Z, Z = List.replicate 256 (Value.bool false) := ⟨_, rfl⟩
  have z1 : Z.length = 256 := by rw [hZ]; simp
  have z2 : Z.all okCell = true := by rw [hZ]; decide
  have z3 : ∀ v, v ∈ Z → ∃ b, v = .bool b := by rw [hZ]; intro v hv; exact ⟨false, List.eq_of_mem_replicate hv⟩
  have z4 : ∀ c : UInt8, c ∉ n3 → Z[c.toNat]? = some (.bool false) := by
    rw [hZ]; intro c _; rw [List.getElem?_replicate_of_lt c.toNat_lt]
  unfold F26
  rw [← hZ]
  clear hZ
  have h1 := h.new (cs := Z)
  (try simp (maxSteps := 1000000) (dsimp := false) (disch := (first | omega | (simp only [okR]; done) | (simp only [sizeR] <;> omega) | fail)) only [↓preR, postR, ↓w_stop, Nat.reduceEqDiff, Nat.reduceAdd, Nat.reduceSub, Nat.reduceMul, Int.reduceNeg, Nat.reduceLT, Int.reduceToNat, Nat.reduceLeDiff, Nat.sub_zero])
  generalize AS.new σ _ = s1 at h1 ⊢
  generalize σ.n = q at h1 ⊢
  refine join_by fun J hJ => ?_
  have tail : ∀ (s2 : AS) (L : List Value), L.length = 256 → L.all okCell = true → (∀ v, v ∈ L → ∃ b, v = .bool b) → (∀ c : UInt8, c ∉ n3 → L[c.toNat]? = some (.bool false)) → Hs s2 X (Cel q L :: R) → J [] s2 := by
    intro s2 L l1 l2 l3 l4 h2
    have e1 : ∀ s3 : AS, s3.m q = some (.cells L) → ldNS s3 256 (.pointer (some ⟨q, 0, none⟩)) = some (.agg L.toArray) := by
      intro s3 hm
      rw [ldN_p, ldsM hm 256 0 (by omega), List.drop_zero, List.take_of_length_le (by omega)]
      rfl
    have e2 : stS s2 256 (.pointer (some ⟨q, 0, none⟩)) (.agg L.toArray) = some (s2.put q (.cells L)) := by
      rw [st_p, h2.obj, stN _ _ _ _ _ l1 l2, if_pos (by omega), List.take_zero, List.nil_append, List.drop_of_length_le (by omega), List.append_nil]
    have h3 := h2.put (cs' := L)
    have e3 := e1 _ h2.obj
    have e4 := e1 _ h3.obj
    refine hJ _ _ ?_
    (try simp (maxSteps := 1000000) (dsimp := false) (disch := (first | omega | (simp only [okR]; done) | (simp only [sizeR] <;> omega) | fail)) only [↓preR, postR, ↓w_stop, Nat.reduceEqDiff, Nat.reduceAdd, Nat.reduceSub, Nat.reduceMul, Int.reduceNeg, Nat.reduceLT, Int.reduceToNat, Nat.reduceLeDiff, Nat.sub_zero, ↓e3, ↓e2, ↓e4])
    exact hk L _ l1 l2 l3 l4 h3.drop
  clear hJ
  (try simp (maxSteps := 1000000) (dsimp := false) (disch := (first | omega | (simp only [okR]; done) | (simp only [sizeR] <;> omega) | fail)) only [↓preR, postR, ↓w_stop, Nat.reduceEqDiff, Nat.reduceAdd, Nat.reduceSub, Nat.reduceMul, Int.reduceNeg, Nat.reduceLT, Int.reduceToNat, Nat.reduceLeDiff, Nat.sub_zero])
  refine loop_inv (fun nn xs s2 => ∃ (j : Nat) (L : List Value), xs = [.int .i64 j] ∧ j ≤ 3 ∧ L.length = 256 ∧ L.all okCell = true ∧ (∀ v, v ∈ L → ∃ b, v = .bool b) ∧ (∀ c : UInt8, c ∉ n3 → L[c.toNat]? = some (.bool false)) ∧ Hs s2 X (Cel q L :: R) ∧ nn = 3 - j) _ ⟨0, Z, rfl, by omega, z1, z2, z3, z4, h1, rfl⟩ ?_
  rintro _ _ s2 again ⟨j, L, rfl, hj, l1, l2, l3, l4, h2, rfl⟩ hag
  (try simp (maxSteps := 1000000) (dsimp := false) (disch := (first | omega | (simp only [okR]; done) | (simp only [sizeR] <;> omega) | fail)) only [↓preR, postR, ↓w_stop, Nat.reduceEqDiff, Nat.reduceAdd, Nat.reduceSub, Nat.reduceMul, Int.reduceNeg, Nat.reduceLT, Int.reduceToNat, Nat.reduceLeDiff, Nat.sub_zero])
  refine join_now ?_
  by_cases hlt : j < 3
  · obtain ⟨c, hc⟩ : ∃ c, (n3[j]?).getD 0 = c := ⟨_, rfl⟩
    have hc1 : c.toNat < 128 := by
      have : j = 0 ∨ j = 1 ∨ j = 2 := by omega
      rw [← hc]
      rcases this with e | e | e <;> rw [e] <;> decide
    (try simp (maxSteps := 1000000) (dsimp := false) (disch := (first | omega | (simp only [okR]; done) | (simp only [sizeR] <;> omega) | fail)) only [↓preR, postR, ↓w_stop, Nat.reduceEqDiff, Nat.reduceAdd, Nat.reduceSub, Nat.reduceMul, Int.reduceNeg, Nat.reduceLT, Int.reduceToNat, Nat.reduceLeDiff, Nat.sub_zero])
    refine join_now ?_
    (try simp (maxSteps := 1000000) (dsimp := false) (disch := (first | omega | (simp only [okR]; done) | (simp only [sizeR] <;> omega) | fail)) only [↓preR, postR, ↓w_stop, Nat.reduceEqDiff, Nat.reduceAdd, Nat.reduceSub, Nat.reduceMul, Int.reduceNeg, Nat.reduceLT, Int.reduceToNat, Nat.reduceLeDiff, Nat.sub_zero, hc])
    refine join_now ?_
    (try simp (maxSteps := 1000000) (dsimp := false) (disch := (first | omega | (simp only [okR]; done) | (simp only [sizeR] <;> omega) | fail)) only [↓preR, postR, ↓w_stop, Nat.reduceEqDiff, Nat.reduceAdd, Nat.reduceSub, Nat.reduceMul, Int.reduceNeg, Nat.reduceLT, Int.reduceToNat, Nat.reduceLeDiff, Nat.sub_zero, hc, h2.obj])
    refine hag _ _ _ ⟨j + 1, L.set c.toNat (.bool true), rfl, hlt, by simp [l1], ?_, fun v hv => ?_, fun c' hc' => ?_, h2.put, rfl⟩ (by omega)
    · rw [List.all_eq_true] at l2 ⊢
      intro v hv
      rcases List.mem_or_eq_of_mem_set hv with hv | rfl
      · exact l2 v hv
      · rfl
    · rcases List.mem_or_eq_of_mem_set hv with hv | rfl
      · exact l3 v hv
      · exact ⟨_, rfl⟩
    · have hcm : c ∈ n3 := by
        rw [← hc, List.getElem?_eq_getElem (show j < n3.length from hlt)]
        exact List.getElem_mem _
      have hne : ¬ c.toNat = c'.toNat := fun e => hc' (by rw [← UInt8.toNat_inj.1 e]; exact hcm)
      rw [List.getElem?_set_ne hne]
      exact l4 c' hc'
  · (try simp (maxSteps := 1000000) (dsimp := false) (disch := (first | omega | (simp only [okR]; done) | (simp only [sizeR] <;> omega) | fail)) only [↓preR, postR, ↓w_stop, Nat.reduceEqDiff, Nat.reduceAdd, Nat.reduceSub, Nat.reduceMul, Int.reduceNeg, Nat.reduceLT, Int.reduceToNat, Nat.reduceLeDiff, Nat.sub_zero])
    exact tail s2 L l1 l2 l3 l4 h2
theorem anyn_c (hs : s.length ≤ 1000000) (h : Hs σ X R) (hk : ∀ b σ', (CleanN s → b = false) → Hs σ' X R → k (.bool b) σ') : kCall Tryz.prog 31 [.string (bs s), .string (bs n3)] σ k := by
  refine f31 ?_
  (try simp (maxSteps := 1000000) (dsimp := false) (disch := (first | omega | (simp only [okR]; done) | (simp only [sizeR] <;> omega) | fail)) only [↓preR, postR, ↓w_stop, Nat.reduceEqDiff, Nat.reduceAdd, Nat.reduceSub, Nat.reduceMul, Int.reduceNeg, Nat.reduceLT, Int.reduceToNat, Nat.reduceLeDiff, Nat.sub_zero, F31])
  suffices H : ∀ k2 : Value → AS → Prop, (∀ (n : Int) σ', (CleanN s → n = -1) → Hs σ' X R → k2 (.int .i64 n) σ') → kCall Tryz.prog 72 [.string (bs s), .string (bs n3)] σ k2 by
    refine H _ fun n σ' hx h' => ?_
    by_cases hn : 0 ≤ n
    · (try simp (maxSteps := 1000000) (dsimp := false) (disch := (first | omega | (simp only [okR]; done) | (simp only [sizeR] <;> omega) | fail)) only [↓preR, postR, ↓w_stop, Nat.reduceEqDiff, Nat.reduceAdd, Nat.reduceSub, Nat.reduceMul, Int.reduceNeg, Nat.reduceLT, Int.reduceToNat, Nat.reduceLeDiff, Nat.sub_zero, hn]); exact hk _ _ (fun hc => by have := hx hc; omega) h'
    · (try simp (maxSteps := 1000000) (dsimp := false) (disch := (first | omega | (simp only [okR]; done) | (simp only [sizeR] <;> omega) | fail)) only [↓preR, postR, ↓w_stop, Nat.reduceEqDiff, Nat.reduceAdd, Nat.reduceSub, Nat.reduceMul, Int.reduceNeg, Nat.reduceLT, Int.reduceToNat, Nat.reduceLeDiff, Nat.sub_zero, hn]); exact hk _ _ (fun _ => rfl) h'
  clear hk
  intro k2 hk
  refine f72 ?_
  have hq0 : (n3 = []) = False := by simp
  (try simp (maxSteps := 1000000) (dsimp := false) (disch := (first | omega | (simp only [okR]; done) | (simp only [sizeR] <;> omega) | fail)) only [↓preR, postR, ↓w_stop, Nat.reduceEqDiff, Nat.reduceAdd, Nat.reduceSub, Nat.reduceMul, Int.reduceNeg, Nat.reduceLT, Int.reduceToNat, Nat.reduceLeDiff, Nat.sub_zero, F72])
  refine join_now ?_
  (try simp (maxSteps := 1000000) (dsimp := false) (disch := (first | omega | (simp only [okR]; done) | (simp only [sizeR] <;> omega) | fail)) only [↓preR, postR, ↓w_stop, Nat.reduceEqDiff, Nat.reduceAdd, Nat.reduceSub, Nat.reduceMul, Int.reduceNeg, Nat.reduceLT, Int.reduceToNat, Nat.reduceLeDiff, Nat.sub_zero, hq0])
  refine join_now ?_
  (try simp (maxSteps := 1000000) (dsimp := false) (disch := (first | omega | (simp only [okR]; done) | (simp only [sizeR] <;> omega) | fail)) only [↓preR, postR, ↓w_stop, Nat.reduceEqDiff, Nat.reduceAdd, Nat.reduceSub, Nat.reduceMul, Int.reduceNeg, Nat.reduceLT, Int.reduceToNat, Nat.reduceLeDiff, Nat.sub_zero])
  refine join_by fun J3 hJ3 => ?_
  have short : J3 [] σ := by
    refine hJ3 _ _ ?_
    clear hJ3
    (try simp (maxSteps := 1000000) (dsimp := false) (disch := (first | omega | (simp only [okR]; done) | (simp only [sizeR] <;> omega) | fail)) only [↓preR, postR, ↓w_stop, Nat.reduceEqDiff, Nat.reduceAdd, Nat.reduceSub, Nat.reduceMul, Int.reduceNeg, Nat.reduceLT, Int.reduceToNat, Nat.reduceLeDiff, Nat.sub_zero])
    refine join_now ?_
    (try simp (maxSteps := 1000000) (dsimp := false) (disch := (first | omega | (simp only [okR]; done) | (simp only [sizeR] <;> omega) | fail)) only [↓preR, postR, ↓w_stop, Nat.reduceEqDiff, Nat.reduceAdd, Nat.reduceSub, Nat.reduceMul, Int.reduceNeg, Nat.reduceLT, Int.reduceToNat, Nat.reduceLeDiff, Nat.sub_zero])
    refine rngS_by Tryz.underlying9 h fun s1 h1 => ?_
    generalize σ.n = q at h1 ⊢
    (try simp (maxSteps := 1000000) (dsimp := false) (disch := (first | omega | (simp only [okR]; done) | (simp only [sizeR] <;> omega) | fail)) only [↓preR, postR, ↓w_stop, Nat.reduceEqDiff, Nat.reduceAdd, Nat.reduceSub, Nat.reduceMul, Int.reduceNeg, Nat.reduceLT, Int.reduceToNat, Nat.reduceLeDiff, Nat.sub_zero])
    refine loop_inv (fun nn xs s2 => ∃ pos : Nat, Hs s2 X (Oth q (.stringIter (bs s) pos) :: R) ∧ nn = s.length - pos) _ ⟨0, h1, rfl⟩ ?_
    rintro _ _ s2 again ⟨pos, h2, rfl⟩ hag
    (try simp (maxSteps := 1000000) (dsimp := false) (disch := (first | omega | (simp only [okR]; done) | (simp only [sizeR] <;> omega) | fail)) only [↓preR, postR, ↓w_stop, Nat.reduceEqDiff, Nat.reduceAdd, Nat.reduceSub, Nat.reduceMul, Int.reduceNeg, Nat.reduceLT, Int.reduceToNat, Nat.reduceLeDiff, Nat.sub_zero])
    refine nxtA_by h2 (fun _ => ?_) (fun r' pos' s3 hp hp' h0' h1' ha h3 => ?_)
    · (try simp (maxSteps := 1000000) (dsimp := false) (disch := (first | omega | (simp only [okR]; done) | (simp only [sizeR] <;> omega) | fail)) only [↓preR, postR, ↓w_stop, Nat.reduceEqDiff, Nat.reduceAdd, Nat.reduceSub, Nat.reduceMul, Int.reduceNeg, Nat.reduceLT, Int.reduceToNat, Nat.reduceLeDiff, Nat.sub_zero])
      refine join_now ?_
      (try simp (maxSteps := 1000000) (dsimp := false) (disch := (first | omega | (simp only [okR]; done) | (simp only [sizeR] <;> omega) | fail)) only [↓preR, postR, ↓w_stop, Nat.reduceEqDiff, Nat.reduceAdd, Nat.reduceSub, Nat.reduceMul, Int.reduceNeg, Nat.reduceLT, Int.reduceToNat, Nat.reduceLeDiff, Nat.sub_zero])
      exact hk _ _ (fun _ => rfl) h2.drop
    · (try simp (maxSteps := 1000000) (dsimp := false) (disch := (first | omega | (simp only [okR]; done) | (simp only [sizeR] <;> omega) | fail)) only [↓preR, postR, ↓w_stop, Nat.reduceEqDiff, Nat.reduceAdd, Nat.reduceSub, Nat.reduceMul, Int.reduceNeg, Nat.reduceLT, Int.reduceToNat, Nat.reduceLeDiff, Nat.sub_zero])
      refine join_now ?_
      (try simp (maxSteps := 1000000) (dsimp := false) (disch := (first | omega | (simp only [okR]; done) | (simp only [sizeR] <;> omega) | fail)) only [↓preR, postR, ↓w_stop, Nat.reduceEqDiff, Nat.reduceAdd, Nat.reduceSub, Nat.reduceMul, Int.reduceNeg, Nat.reduceLT, Int.reduceToNat, Nat.reduceLeDiff, Nat.sub_zero])
      refine runn_c h0' h1' h3 fun n s4 hx h4 => ?_
      have hx' : CleanN s → n = -1 := fun hc => by
        have h5 := hc _ (List.getElem_mem hp)
        exact hx _ (ha h5.1).1 h5.1 h5.2
      by_cases hn : 0 ≤ n
      · (try simp (maxSteps := 1000000) (dsimp := false) (disch := (first | omega | (simp only [okR]; done) | (simp only [sizeR] <;> omega) | fail)) only [↓preR, postR, ↓w_stop, Nat.reduceEqDiff, Nat.reduceAdd, Nat.reduceSub, Nat.reduceMul, Int.reduceNeg, Nat.reduceLT, Int.reduceToNat, Nat.reduceLeDiff, Nat.sub_zero, hn])
        exact hk _ _ (fun hc => by have := hx' hc; omega) h4.drop
      · (try simp (maxSteps := 1000000) (dsimp := false) (disch := (first | omega | (simp only [okR]; done) | (simp only [sizeR] <;> omega) | fail)) only [↓preR, postR, ↓w_stop, Nat.reduceEqDiff, Nat.reduceAdd, Nat.reduceSub, Nat.reduceMul, Int.reduceNeg, Nat.reduceLT, Int.reduceToNat, Nat.reduceLeDiff, Nat.sub_zero, hn])
        exact hag _ _ _ ⟨pos', h4, rfl⟩ (by omega)
  clear hJ3
  (try simp (maxSteps := 1000000) (dsimp := false) (disch := (first | omega | (simp only [okR]; done) | (simp only [sizeR] <;> omega) | fail)) only [↓preR, postR, ↓w_stop, Nat.reduceEqDiff, Nat.reduceAdd, Nat.reduceSub, Nat.reduceMul, Int.reduceNeg, Nat.reduceLT, Int.reduceToNat, Nat.reduceLeDiff, Nat.sub_zero])
  refine f93 ?_
  by_cases h8 : 8 < s.length
  rotate_left
  · (try simp (maxSteps := 1000000) (dsimp := false) (disch := (first | omega | (simp only [okR]; done) | (simp only [sizeR] <;> omega) | fail)) only [↓preR, postR, ↓w_stop, Nat.reduceEqDiff, Nat.reduceAdd, Nat.reduceSub, Nat.reduceMul, Int.reduceNeg, Nat.reduceLT, Int.reduceToNat, Nat.reduceLeDiff, Nat.sub_zero, F93])
    exact short
  (try simp (maxSteps := 1000000) (dsimp := false) (disch := (first | omega | (simp only [okR]; done) | (simp only [sizeR] <;> omega) | fail)) only [↓preR, postR, ↓w_stop, Nat.reduceEqDiff, Nat.reduceAdd, Nat.reduceSub, Nat.reduceMul, Int.reduceNeg, Nat.reduceLT, Int.reduceToNat, Nat.reduceLeDiff, Nat.sub_zero, F93])
  refine mkn_c h fun L s1 l1 l2 l3 l4 h1 => ?_
  (try simp (maxSteps := 1000000) (dsimp := false) (disch := (first | omega | (simp only [okR]; done) | (simp only [sizeR] <;> omega) | fail)) only [↓preR, postR, ↓w_stop, Nat.reduceEqDiff, Nat.reduceAdd, Nat.reduceSub, Nat.reduceMul, Int.reduceNeg, Nat.reduceLT, Int.reduceToNat, Nat.reduceLeDiff, Nat.sub_zero])
  have h2 : Hs _ X (Cel s1.n (L ++ List.drop 256 (List.replicate 256 (Value.bool false))) :: R) := (h1.new (cs := List.replicate 256 (Value.bool false))).put
  generalize AS.put _ _ _ = s2 at h2 ⊢
  generalize s1.n = q at h2 ⊢
  refine join_now ?_
  refine loop_inv (fun nn xs s3 => ∃ j : Nat, xs = [.int .i64 j] ∧ s2 = s3 ∧ j ≤ s.length ∧ nn = s.length - j) _ ⟨0, rfl, rfl, Nat.zero_le _, rfl⟩ ?_
  rintro _ _ s3 again ⟨j, rfl, rfl, hj, rfl⟩ hag
  (try simp (maxSteps := 1000000) (dsimp := false) (disch := (first | omega | (simp only [okR]; done) | (simp only [sizeR] <;> omega) | fail)) only [↓preR, postR, ↓w_stop, Nat.reduceEqDiff, Nat.reduceAdd, Nat.reduceSub, Nat.reduceMul, Int.reduceNeg, Nat.reduceLT, Int.reduceToNat, Nat.reduceLeDiff, Nat.sub_zero])
  refine join_now ?_
  by_cases hlt : j < s.length
  rotate_left
  · (try simp (maxSteps := 1000000) (dsimp := false) (disch := (first | omega | (simp only [okR]; done) | (simp only [sizeR] <;> omega) | fail)) only [↓preR, postR, ↓w_stop, Nat.reduceEqDiff, Nat.reduceAdd, Nat.reduceSub, Nat.reduceMul, Int.reduceNeg, Nat.reduceLT, Int.reduceToNat, Nat.reduceLeDiff, Nat.sub_zero])
    exact hk _ _ (fun _ => rfl) h2.drop
  have hc := (s[j]).toNat_lt
  obtain ⟨b, hb⟩ := l3 _ (List.getElem_mem (show (s[j]).toNat < L.length by omega))
  have hload : (L ++ List.drop 256 (List.replicate 256 (Value.bool false)))[(s[j]).toNat]? = some (.bool b) := by
    rw [List.getElem?_append_left (by omega), List.getElem?_eq_getElem (by omega), hb]
  (try simp (maxSteps := 1000000) (dsimp := false) (disch := (first | omega | (simp only [okR]; done) | (simp only [sizeR] <;> omega) | fail)) only [↓preR, postR, ↓w_stop, Nat.reduceEqDiff, Nat.reduceAdd, Nat.reduceSub, Nat.reduceMul, Int.reduceNeg, Nat.reduceLT, Int.reduceToNat, Nat.reduceLeDiff, Nat.sub_zero])
  refine join_now ?_
  (try simp (maxSteps := 1000000) (dsimp := false) (disch := (first | omega | (simp only [okR]; done) | (simp only [sizeR] <;> omega) | fail)) only [↓preR, postR, ↓w_stop, Nat.reduceEqDiff, Nat.reduceAdd, Nat.reduceSub, Nat.reduceMul, Int.reduceNeg, Nat.reduceLT, Int.reduceToNat, Nat.reduceLeDiff, Nat.sub_zero, getd hlt])
  refine f68 ?_
  (try simp (maxSteps := 1000000) (dsimp := false) (disch := (first | omega | (simp only [okR]; done) | (simp only [sizeR] <;> omega) | fail)) only [↓preR, postR, ↓w_stop, Nat.reduceEqDiff, Nat.reduceAdd, Nat.reduceSub, Nat.reduceMul, Int.reduceNeg, Nat.reduceLT, Int.reduceToNat, Nat.reduceLeDiff, Nat.sub_zero, F68, h2.obj, hload])
  cases b with
  | true =>
    (try simp (maxSteps := 1000000) (dsimp := false) (disch := (first | omega | (simp only [okR]; done) | (simp only [sizeR] <;> omega) | fail)) only [↓preR, postR, ↓w_stop, Nat.reduceEqDiff, Nat.reduceAdd, Nat.reduceSub, Nat.reduceMul, Int.reduceNeg, Nat.reduceLT, Int.reduceToNat, Nat.reduceLeDiff, Nat.sub_zero])
    exact hk _ _ (fun hc => by
      have h5 := l4 _ (hc _ (List.getElem_mem hlt)).2
      rw [List.getElem?_eq_getElem (show (s[j]).toNat < L.length by omega), hb] at h5
      cases h5) h2.drop
  | false =>
    (try simp (maxSteps := 1000000) (dsimp := false) (disch := (first | omega | (simp only [okR]; done) | (simp only [sizeR] <;> omega) | fail)) only [↓preR, postR, ↓w_stop, Nat.reduceEqDiff, Nat.reduceAdd, Nat.reduceSub, Nat.reduceMul, Int.reduceNeg, Nat.reduceLT, Int.reduceToNat, Nat.reduceLeDiff, Nat.sub_zero])
    exact hag _ _ _ ⟨j + 1, rfl, rfl, hlt, rfl⟩ (by omega)
end
end Go.Proofs.YtkbpbagjbjkpmaaGreatDoor

/- A text's bytes as a row that stays. Conditions: as each theorem says. -/
namespace Go.Proofs.YtkbpbagjbjkpmaaGreatDoor.E
open Go.RowKit
set_option linter.unusedVariables false
set_option linter.unusedSimpArgs false

/-- A new block whose cells stay. -/
def AS.row (σ : AS) (l : List Value) : AS := ⟨σ.m, fun b o => if b = σ.n then l[o]? else σ.c b o, σ.n + 1, fun g h => by have := σ.wm g h; omega, fun b o h => by
  by_cases e : b = σ.n
  · subst e
    refine ⟨by omega, ?_⟩
    cases hm : σ.m σ.n with
    | none => rfl
    | some ob => have := σ.wm σ.n (by rw [hm]; simp); omega
  · rw [if_neg e] at h
    have := σ.wc b o h
    exact ⟨by omega, this.2⟩⟩
section
variable {P : Program} {K : Value → AS → Prop} {σ : AS} {X : Ce} {R : List Ck} {t u e : TypeId} {s : List UInt8} {L : List Value}
theorem row_c (i : Nat) : (σ.row L).c σ.n i = L[i]? := by
  show (if σ.n = σ.n then L[i]? else _) = _
  rw [if_pos rfl]
theorem row_m : (σ.row L).m σ.n = none := by
  cases hm : σ.m σ.n with
  | none => exact hm
  | some ob => have := σ.wm σ.n (by rw [hm]; simp); omega
theorem Hs.row (h : Hs σ X R) : Hs (σ.row L) X R := by
  refine ⟨fun b o v hv => ?_, h.s.frame (Ce.le_refl _) (fun g _ _ => rfl) (fun g hg => .inl hg)⟩
  have h1 := h.x b o v hv
  have hb : b < σ.n := inX_lt h.x ⟨o, by rw [hv]; simp⟩
  have e : (σ.row L).ld b o = σ.ld b o := by
    have ec : (σ.row L).c b o = σ.c b o := by
      show (if b = σ.n then L[o]? else σ.c b o) = _
      rw [if_neg (by omega)]
    unfold AS.ld
    rw [ec]
    rfl
  rw [e]
  exact h1
theorem cvs_by (h : Hs σ X R) (hs : P.underlying t = some .string) (hd : P.underlying u = some (.slice e)) (he : P.underlying e = some (.int .u8))
    (hk : ∀ c, K (.slice (some ⟨σ.n, 0, none⟩) s.length c) (σ.row (s.map fun b => .int .u8 b.toNat))) : kGen P (.cv t u) [.string (bs s)] σ K := by
  intro w hw
  have hsz : (bs s).size = s.length := bs_size s
  have hn : w.heap.size = σ.n := hw.sz
  have hb : Below w.heap.size w (Go.Lib.bytesWorld w e (bs s)) := Go.Lib.bytesWorld_below _ _ _
  have hS := hw.below hb
  refine ⟨_, _, Go.Lib.run_convert_string_bytes w t u e (bs s) hs hd he, KeepP.ofBelow hb, σ.row (s.map fun b => .int .u8 b.toNat), ⟨?_, hS.m, fun b o v hv => ?_⟩, ⟨?_, fun g hg => .inl hg⟩, ?_⟩
  · show (Go.Lib.bytesWorld w e (bs s)).heap.size = σ.n + 1
    rw [Go.Lib.bytesWorld_size, hn]
  · by_cases hbn : b = σ.n
    · subst hbn
      rw [row_c] at hv
      simp only [List.getElem?_map, Option.map_eq_some_iff] at hv
      obtain ⟨a, ha, rfl⟩ := hv
      have hl := (List.getElem?_eq_some_iff.1 ha).1
      rw [← hn, Go.Lib.bytesWorld_cell w e (bs s) o (by omega)]
      have e1 : (bs s).data.toList = s := by simp [bs]
      rw [e1, List.getD_eq_getElem?_getD, ha]
      rfl
    · refine hS.c b o v ?_
      show σ.c b o = some v
      rw [← hv]
      show _ = if b = σ.n then _ else _
      rw [if_neg hbn]
  · show σ.n ≤ σ.n + 1; omega
  · rw [hsz, hn]
    exact hk _
end
end Go.Proofs.YtkbpbagjbjkpmaaGreatDoor.E

/- A word's number, as the program reads it. Conditions: as each theorem says. -/
namespace Go.Proofs.YtkbpbagjbjkpmaaGreatDoor
open E Go.Lib
set_option linter.unusedVariables false
set_option linter.unusedSimpArgs false
set_option maxHeartbeats 1000000
set_option maxRecDepth 20000

def digK (c : UInt8) : Nat := if 48 ≤ c.toNat ∧ c.toNat ≤ 57 then c.toNat - 48 else if 97 ≤ orV c ∧ orV c ≤ 122 then (orV c - 87).toNat else 99
theorem digK_all : (List.range 256).all (fun i => decide (min (digK (UInt8.ofNat i)) 16 = min (digV (UInt8.ofNat i)) 16) && decide (0 ≤ orV (UInt8.ofNat i)) && decide (orV (UInt8.ofNat i) ≤ 255)) = true := by decide +kernel
theorem digK_at (c : UInt8) : min (digK c) 16 = min (digV c) 16 ∧ 0 ≤ orV c ∧ orV c ≤ 255 := by
  have h := List.all_eq_true.1 digK_all c.toNat (List.mem_range.2 c.toNat_lt)
  simp only [UInt8.ofNat_toNat, Bool.and_eq_true, decide_eq_true_eq] at h
  exact ⟨h.1.1, h.1.2, h.2⟩
theorem digK_lt {c : UInt8} {b : Nat} (hb : b ≤ 16) : (digK c < b ↔ digV c < b) ∧ (digV c < b → digK c = digV c) := by
  have := (digK_at c).1
  omega
theorem valB_ge {b : Nat} (hb : 1 ≤ b) : ∀ {s : Str} {a n : Nat}, valB b s a = some n → a ≤ n
  | [], a, n, h => by simp only [valB, Option.some.injEq] at h; omega
  | c :: t, a, n, h => by
    simp only [valB] at h
    split at h
    · have h1 := valB_ge hb h
      have : a * 1 ≤ a * b := Nat.mul_le_mul_left a hb
      omega
    · cases h
/-- What reading a number gives. -/
def PuR (base : Int) (s : Str) (v : Int) (e : Value) : Prop :=
  (∃ n : Nat, s ≠ [] ∧ valB base.toNat s 0 = some n ∧ n < 18446744073709551616 ∧ v = n ∧ e = .nilIface) ∨
  ((∃ x : Int, (x = 1 ∨ x = 2) ∧ e = .iface 93 (.int .i64 x)) ∧ (s = [] ∨ ∀ n, valB base.toNat s 0 = some n → 18446744073709551616 ≤ n) ∧ 0 ≤ v ∧ v ≤ 18446744073709551615)
theorem wrapU64 (n : Int) (h1 : 0 ≤ n) (h2 : n ≤ 18446744073709551615) : IntKind.u64.wrap n = n := by
  simp [IntKind.wrap, IntKind.bits, IntKind.signed]; omega
section
variable {σ σ' : AS} {X : Ce} {R : List Ck} {k : Value → AS → Prop} {s : Str} {base : Int}
theorem lower_c {c : UInt8} (hk : k (.int .u8 (orV c)) σ) : kCall Tryz.prog 94 [.int .u8 c.toNat] σ k := by
  refine f94 ?_
  (simp (maxSteps := 1000000) (dsimp := false) (disch := (first | omega | (simp only [okR]; done) | (simp only [sizeR] <;> omega) | fail)) only [↓preR, postR, ↓w_join, Nat.reduceEqDiff, Nat.reduceAdd, Nat.reduceSub, Nat.reduceMul, Int.reduceNeg, Nat.reduceLT, Int.reduceToNat, Nat.reduceLeDiff, Nat.sub_zero, F94, or32])
  exact hk
theorem pu_c (hb : base = 8 ∨ base = 10 ∨ base = 16) (hs : s.length ≤ 1000000) (h : Hs σ X R) (hk : ∀ v e σ', PuR base s v e → Hs σ' X R → k (.tuple #[.int .u64 v, e]) σ') :
    kCall Tryz.prog 73 [.string (bs s), .int .i64 base, .int .i64 64] σ k := by
  refine f73 ?_
  have b0 : ¬ base = 0 := by omega
  have b2 : 2 ≤ base := by omega
  have b36 : base ≤ 36 := by omega
  have b16 : base ≤ 16 := by omega
  have w1 : IntKind.u64.wrap base = base := wrapU64 _ (by omega) (by omega)
  have w2 : IntKind.u8.wrap base = base := wrapU8 _ (by omega) (by omega)
  have bad : ∀ (x : Int) (v : Int) σ', (x = 1 ∨ x = 2) → (s = [] ∨ ∀ n, valB base.toNat s 0 = some n → 18446744073709551616 ≤ n) → 0 ≤ v → v ≤ 18446744073709551615 → Hs σ' X R → k (.tuple #[.int .u64 v, .iface 93 (.int .i64 x)]) σ' :=
    fun x v σ' hx hn h1 h2 h3 => hk _ _ _ (.inr ⟨⟨x, hx, rfl⟩, hn, h1, h2⟩) h3
  have cc : Tryz.prog.concrete 93 = true := by kernel_rfl
  by_cases h0 : s = []
  · subst h0
    (try simp (maxSteps := 1000000) (dsimp := false) (disch := (first | omega | (simp only [okR]; done) | (simp only [sizeR] <;> omega) | fail)) only [↓preR, postR, ↓w_stop, Nat.reduceEqDiff, Nat.reduceAdd, Nat.reduceSub, Nat.reduceMul, Int.reduceNeg, Nat.reduceLT, Int.reduceToNat, Nat.reduceLeDiff, Nat.sub_zero, F73])
    refine join_now ?_
    (try simp (maxSteps := 1000000) (dsimp := false) (disch := (first | omega | (simp only [okR]; done) | (simp only [sizeR] <;> omega) | fail)) only [↓preR, postR, ↓w_stop, Nat.reduceEqDiff, Nat.reduceAdd, Nat.reduceSub, Nat.reduceMul, Int.reduceNeg, Nat.reduceLT, Int.reduceToNat, Nat.reduceLeDiff, Nat.sub_zero])
    refine mki_by cc ?_
    (try simp (maxSteps := 1000000) (dsimp := false) (disch := (first | omega | (simp only [okR]; done) | (simp only [sizeR] <;> omega) | fail)) only [↓preR, postR, ↓w_stop, Nat.reduceEqDiff, Nat.reduceAdd, Nat.reduceSub, Nat.reduceMul, Int.reduceNeg, Nat.reduceLT, Int.reduceToNat, Nat.reduceLeDiff, Nat.sub_zero])
    exact bad 2 0 σ (.inr rfl) (.inl rfl) (by decide) (by decide) h
  (try simp (maxSteps := 1000000) (dsimp := false) (disch := (first | omega | (simp only [okR]; done) | (simp only [sizeR] <;> omega) | fail)) only [↓preR, postR, ↓w_stop, Nat.reduceEqDiff, Nat.reduceAdd, Nat.reduceSub, Nat.reduceMul, Int.reduceNeg, Nat.reduceLT, Int.reduceToNat, Nat.reduceLeDiff, Nat.sub_zero, F73, b0])
  refine join_now ?_
  (try simp (maxSteps := 1000000) (dsimp := false) (disch := (first | omega | (simp only [okR]; done) | (simp only [sizeR] <;> omega) | fail)) only [↓preR, postR, ↓w_stop, Nat.reduceEqDiff, Nat.reduceAdd, Nat.reduceSub, Nat.reduceMul, Int.reduceNeg, Nat.reduceLT, Int.reduceToNat, Nat.reduceLeDiff, Nat.sub_zero, h0, b0])
  refine join_now ?_
  (try simp (maxSteps := 1000000) (dsimp := false) (disch := (first | omega | (simp only [okR]; done) | (simp only [sizeR] <;> omega) | fail)) only [↓preR, postR, ↓w_stop, Nat.reduceEqDiff, Nat.reduceAdd, Nat.reduceSub, Nat.reduceMul, Int.reduceNeg, Nat.reduceLT, Int.reduceToNat, Nat.reduceLeDiff, Nat.sub_zero, b2, b36])
  refine join_now ?_
  (try simp (maxSteps := 1000000) (dsimp := false) (disch := (first | omega | (simp only [okR]; done) | (simp only [sizeR] <;> omega) | fail)) only [↓preR, postR, ↓w_stop, Nat.reduceEqDiff, Nat.reduceAdd, Nat.reduceSub, Nat.reduceMul, Int.reduceNeg, Nat.reduceLT, Int.reduceToNat, Nat.reduceLeDiff, Nat.sub_zero])
  refine join_by fun J4 hJ4 => ?_
  have tail : ∀ cut : Nat, (∀ a : Nat, a < cut → (a : Int) * base ≤ 18446744073709551615) → (∀ a : Nat, cut ≤ a → 18446744073709551616 ≤ (a : Int) * base) → J4 [.int .u64 cut] σ := by
    intro cut c1cut c2
    refine hJ4 _ _ ?_
    clear hJ4
    have w64 : IntKind.u64.wrap 64 = 64 := wrapU64 _ (by decide) (by decide)
    have hsf : sftV .shl (.int .u64 1) (.int .u64 64) = some (.int .u64 0) := by kernel_rfl
    have hsb : binV .sub (.int .u64 0) (.int .u64 1) = some (.int .u64 18446744073709551615) := by kernel_rfl
    (try simp (maxSteps := 1000000) (dsimp := false) (disch := (first | omega | (simp only [okR]; done) | (simp only [sizeR] <;> omega) | fail)) only [↓preR, postR, ↓w_stop, Nat.reduceEqDiff, Nat.reduceAdd, Nat.reduceSub, Nat.reduceMul, Int.reduceNeg, Nat.reduceLT, Int.reduceToNat, Nat.reduceLeDiff, Nat.sub_zero, w1, w64, hsf, hsb])
    refine join_by fun J5 hJ5 => ?_
    have fin : ∀ (a : Nat) σ', a < 18446744073709551616 → valB base.toNat s 0 = some a → Hs σ' X R → J5 [.bool false, .int .u64 a] σ' := by
      intro a σ' ha hv h1
      refine hJ5 _ _ ?_
      clear hJ5
      (try simp (maxSteps := 1000000) (dsimp := false) (disch := (first | omega | (simp only [okR]; done) | (simp only [sizeR] <;> omega) | fail)) only [↓preR, postR, ↓w_stop, Nat.reduceEqDiff, Nat.reduceAdd, Nat.reduceSub, Nat.reduceMul, Int.reduceNeg, Nat.reduceLT, Int.reduceToNat, Nat.reduceLeDiff, Nat.sub_zero])
      refine join_now ?_
      (try simp (maxSteps := 1000000) (dsimp := false) (disch := (first | omega | (simp only [okR]; done) | (simp only [sizeR] <;> omega) | fail)) only [↓preR, postR, ↓w_stop, Nat.reduceEqDiff, Nat.reduceAdd, Nat.reduceSub, Nat.reduceMul, Int.reduceNeg, Nat.reduceLT, Int.reduceToNat, Nat.reduceLeDiff, Nat.sub_zero])
      exact hk _ _ _ (.inl ⟨a, h0, hv, ha, rfl, rfl⟩) h1
    clear hJ5
    refine cvs_by h (e := 5) (by kernel_rfl) (by kernel_rfl) (by kernel_rfl) fun cp => ?_
    have h1 := h.row (L := s.map fun b => .int .u8 b.toNat)
    have c1 : ∀ j (hj : j < s.length), (σ.row (s.map fun b => .int .u8 b.toNat)).c σ.n j = some (.int .u8 (s[j]).toNat) := by
      intro j hj
      rw [row_c, List.getElem?_map, List.getElem?_eq_getElem hj]
      rfl
    have m1 := row_m (σ := σ) (L := s.map fun b => .int .u8 b.toNat)
    generalize AS.row σ _ = s1 at h1 c1 m1 ⊢
    generalize σ.n = g at c1 m1 ⊢
    (try simp (maxSteps := 1000000) (dsimp := false) (disch := (first | omega | (simp only [okR]; done) | (simp only [sizeR] <;> omega) | fail)) only [↓preR, postR, ↓w_stop, Nat.reduceEqDiff, Nat.reduceAdd, Nat.reduceSub, Nat.reduceMul, Int.reduceNeg, Nat.reduceLT, Int.reduceToNat, Nat.reduceLeDiff, Nat.sub_zero])
    refine loop_inv (fun nn xs s2 => ∃ (a j : Nat), xs = [.bool false, .int .u64 a, .int .i64 j] ∧ s1 = s2 ∧ j ≤ s.length ∧ a < 18446744073709551616 ∧ valB base.toNat s 0 = valB base.toNat (s.drop j) a ∧ nn = s.length - j) _ ⟨0, 0, rfl, rfl, Nat.zero_le _, by decide, rfl, rfl⟩ ?_
    rintro _ _ s2 again ⟨a, j, rfl, rfl, hj, ha, hv, rfl⟩ hag
    (try simp (maxSteps := 1000000) (dsimp := false) (disch := (first | omega | (simp only [okR]; done) | (simp only [sizeR] <;> omega) | fail)) only [↓preR, postR, ↓w_stop, Nat.reduceEqDiff, Nat.reduceAdd, Nat.reduceSub, Nat.reduceMul, Int.reduceNeg, Nat.reduceLT, Int.reduceToNat, Nat.reduceLeDiff, Nat.sub_zero])
    refine join_now ?_
    by_cases hlt : j < s.length
    rotate_left
    · (try simp (maxSteps := 1000000) (dsimp := false) (disch := (first | omega | (simp only [okR]; done) | (simp only [sizeR] <;> omega) | fail)) only [↓preR, postR, ↓w_stop, Nat.reduceEqDiff, Nat.reduceAdd, Nat.reduceSub, Nat.reduceMul, Int.reduceNeg, Nat.reduceLT, Int.reduceToNat, Nat.reduceLeDiff, Nat.sub_zero])
      rw [List.drop_of_length_le (by omega)] at hv
      exact fin a _ ha hv h1
    rw [List.drop_eq_getElem_cons hlt] at hv
    simp only [valB] at hv
    have cj := c1 j hlt
    generalize s[j] = c at cj hv
    (try simp (maxSteps := 1000000) (dsimp := false) (disch := (first | omega | (simp only [okR]; done) | (simp only [sizeR] <;> omega) | fail)) only [↓preR, postR, ↓w_stop, Nat.reduceEqDiff, Nat.reduceAdd, Nat.reduceSub, Nat.reduceMul, Int.reduceNeg, Nat.reduceLT, Int.reduceToNat, Nat.reduceLeDiff, Nat.sub_zero])
    refine join_now ?_
    (try simp (maxSteps := 1000000) (dsimp := false) (disch := (first | omega | (simp only [okR]; done) | (simp only [sizeR] <;> omega) | fail)) only [↓preR, postR, ↓w_stop, Nat.reduceEqDiff, Nat.reduceAdd, Nat.reduceSub, Nat.reduceMul, Int.reduceNeg, Nat.reduceLT, Int.reduceToNat, Nat.reduceLeDiff, Nat.sub_zero, cj, m1])
    refine join_by fun J10 hJ10 => ?_
    have bN : base.toNat ≤ 16 := by omega
    have bE : ((base.toNat : Nat) : Int) = base := by omega
    have bN1 : 1 ≤ base.toNat := by omega
    have step : ∀ d : Nat, digK c = d → d ≤ 255 → J10 [.bool false, .int .u8 d] s1 := by
      intro d hd hd2
      have hdl := digK_lt (c := c) bN
      rw [hd] at hdl
      refine hJ10 _ _ ?_
      clear hJ10
      by_cases hdb : base ≤ (d : Int)
      · have hno : ¬ digV c < base.toNat := fun h5 => by have := hdl.1.2 h5; omega
        rw [if_neg hno] at hv
        (try simp (maxSteps := 1000000) (dsimp := false) (disch := (first | omega | (simp only [okR]; done) | (simp only [sizeR] <;> omega) | fail)) only [↓preR, postR, ↓w_stop, Nat.reduceEqDiff, Nat.reduceAdd, Nat.reduceSub, Nat.reduceMul, Int.reduceNeg, Nat.reduceLT, Int.reduceToNat, Nat.reduceLeDiff, Nat.sub_zero, w2])
        refine join_now ?_
        (try simp (maxSteps := 1000000) (dsimp := false) (disch := (first | omega | (simp only [okR]; done) | (simp only [sizeR] <;> omega) | fail)) only [↓preR, postR, ↓w_stop, Nat.reduceEqDiff, Nat.reduceAdd, Nat.reduceSub, Nat.reduceMul, Int.reduceNeg, Nat.reduceLT, Int.reduceToNat, Nat.reduceLeDiff, Nat.sub_zero, w2, hdb])
        refine mki_by cc ?_
        (try simp (maxSteps := 1000000) (dsimp := false) (disch := (first | omega | (simp only [okR]; done) | (simp only [sizeR] <;> omega) | fail)) only [↓preR, postR, ↓w_stop, Nat.reduceEqDiff, Nat.reduceAdd, Nat.reduceSub, Nat.reduceMul, Int.reduceNeg, Nat.reduceLT, Int.reduceToNat, Nat.reduceLeDiff, Nat.sub_zero])
        exact bad 2 0 _ (.inr rfl) (.inr fun n hn => by rw [hv] at hn; cases hn) (by decide) (by decide) h1
      have hyes : digV c < base.toNat := hdl.1.1 (by omega)
      have hde := hdl.2 hyes
      rw [if_pos hyes, ← hde] at hv
      have big : ∀ n, valB base.toNat s 0 = some n → a * base.toNat + d ≤ n := fun n hn => valB_ge bN1 (hv ▸ hn)
      have hmul : ((a * base.toNat : Nat) : Int) = (a : Int) * base := by rw [Int.natCast_mul, bE]
      (try simp (maxSteps := 1000000) (dsimp := false) (disch := (first | omega | (simp only [okR]; done) | (simp only [sizeR] <;> omega) | fail)) only [↓preR, postR, ↓w_stop, Nat.reduceEqDiff, Nat.reduceAdd, Nat.reduceSub, Nat.reduceMul, Int.reduceNeg, Nat.reduceLT, Int.reduceToNat, Nat.reduceLeDiff, Nat.sub_zero, w2])
      refine join_now ?_
      (try simp (maxSteps := 1000000) (dsimp := false) (disch := (first | omega | (simp only [okR]; done) | (simp only [sizeR] <;> omega) | fail)) only [↓preR, postR, ↓w_stop, Nat.reduceEqDiff, Nat.reduceAdd, Nat.reduceSub, Nat.reduceMul, Int.reduceNeg, Nat.reduceLT, Int.reduceToNat, Nat.reduceLeDiff, Nat.sub_zero, w2, hdb])
      refine join_now ?_
      by_cases hcut : (cut : Int) ≤ (a : Int)
      · have c2' := c2 a (by omega)
        (try simp (maxSteps := 1000000) (dsimp := false) (disch := (first | omega | (simp only [okR]; done) | (simp only [sizeR] <;> omega) | fail)) only [↓preR, postR, ↓w_stop, Nat.reduceEqDiff, Nat.reduceAdd, Nat.reduceSub, Nat.reduceMul, Int.reduceNeg, Nat.reduceLT, Int.reduceToNat, Nat.reduceLeDiff, Nat.sub_zero, hcut])
        refine mki_by cc ?_
        (try simp (maxSteps := 1000000) (dsimp := false) (disch := (first | omega | (simp only [okR]; done) | (simp only [sizeR] <;> omega) | fail)) only [↓preR, postR, ↓w_stop, Nat.reduceEqDiff, Nat.reduceAdd, Nat.reduceSub, Nat.reduceMul, Int.reduceNeg, Nat.reduceLT, Int.reduceToNat, Nat.reduceLeDiff, Nat.sub_zero])
        exact bad 1 _ _ (.inl rfl) (.inr fun n hn => by have := big n hn; omega) (by decide) (by decide) h1
      have c1' := c1cut a (by omega)
      have m0 : 0 ≤ (a : Int) * base := by rw [← hmul]; omega
      have w3 : IntKind.u64.wrap ((a : Int) * base) = (a : Int) * base := wrapU64 _ m0 c1'
      have w4 : IntKind.u64.wrap (d : Int) = (d : Int) := wrapU64 _ (by omega) (by omega)
      by_cases hov : (a : Int) * base + d ≤ 18446744073709551615
      · have w5 : IntKind.u64.wrap ((a : Int) * base + d) = (a : Int) * base + d := wrapU64 _ (by omega) hov
        have l1 : ¬ (a : Int) * base + d < (a : Int) * base := by omega
        have l2 : ¬ 18446744073709551615 < (a : Int) * base + d := by omega
        (try simp (maxSteps := 1000000) (dsimp := false) (disch := (first | omega | (simp only [okR]; done) | (simp only [sizeR] <;> omega) | fail)) only [↓preR, postR, ↓w_stop, Nat.reduceEqDiff, Nat.reduceAdd, Nat.reduceSub, Nat.reduceMul, Int.reduceNeg, Nat.reduceLT, Int.reduceToNat, Nat.reduceLeDiff, Nat.sub_zero, hcut, w1, w3, w4, w5])
        refine join_now ?_
        (try simp (maxSteps := 1000000) (dsimp := false) (disch := (first | omega | (simp only [okR]; done) | (simp only [sizeR] <;> omega) | fail)) only [↓preR, postR, ↓w_stop, Nat.reduceEqDiff, Nat.reduceAdd, Nat.reduceSub, Nat.reduceMul, Int.reduceNeg, Nat.reduceLT, Int.reduceToNat, Nat.reduceLeDiff, Nat.sub_zero, l1, l2])
        exact hag _ _ _ ⟨a * base.toNat + d, j + 1, by rw [Int.natCast_add, hmul, Int.natCast_add]; rfl, rfl, hlt, by omega, hv, rfl⟩ (by omega)
      · have w5 : IntKind.u64.wrap ((a : Int) * base + d) = (a : Int) * base + d - 18446744073709551616 := by
          simp [IntKind.wrap, IntKind.bits, IntKind.signed]; omega
        have l1 : (a : Int) * base + d - 18446744073709551616 < (a : Int) * base := by omega
        (try simp (maxSteps := 1000000) (dsimp := false) (disch := (first | omega | (simp only [okR]; done) | (simp only [sizeR] <;> omega) | fail)) only [↓preR, postR, ↓w_stop, Nat.reduceEqDiff, Nat.reduceAdd, Nat.reduceSub, Nat.reduceMul, Int.reduceNeg, Nat.reduceLT, Int.reduceToNat, Nat.reduceLeDiff, Nat.sub_zero, hcut, w1, w3, w4, w5])
        refine join_now ?_
        (try simp (maxSteps := 1000000) (dsimp := false) (disch := (first | omega | (simp only [okR]; done) | (simp only [sizeR] <;> omega) | fail)) only [↓preR, postR, ↓w_stop, Nat.reduceEqDiff, Nat.reduceAdd, Nat.reduceSub, Nat.reduceMul, Int.reduceNeg, Nat.reduceLT, Int.reduceToNat, Nat.reduceLeDiff, Nat.sub_zero, l1])
        refine mki_by cc ?_
        (try simp (maxSteps := 1000000) (dsimp := false) (disch := (first | omega | (simp only [okR]; done) | (simp only [sizeR] <;> omega) | fail)) only [↓preR, postR, ↓w_stop, Nat.reduceEqDiff, Nat.reduceAdd, Nat.reduceSub, Nat.reduceMul, Int.reduceNeg, Nat.reduceLT, Int.reduceToNat, Nat.reduceLeDiff, Nat.sub_zero])
        exact bad 1 _ _ (.inl rfl) (.inr fun n hn => by have := big n hn; omega) (by decide) (by decide) h1
    clear hJ10
    have none_ : digK c = 99 → ∀ n, valB base.toNat s 0 = some n → 18446744073709551616 ≤ n := fun h9 n hn => by
      have := digK_lt (c := c) bN
      rw [if_neg (fun h5 => by have := this.1.2 h5; omega)] at hv
      rw [hv] at hn; cases hn
    have hcs := c.toNat_lt
    have bad2 : digK c = 99 → k (.tuple #[.int .u64 0, .iface 93 (.int .i64 2)]) s1 := fun h9 => bad 2 0 _ (.inr rfl) (.inr (none_ h9)) (by decide) (by decide) h1
    by_cases e95 : c = 95
    · subst e95
      have h9 : digK 95 = 99 := by decide +kernel
      have o1 : 97 ≤ orV 95 := by decide +kernel
      have o2 : ¬ orV 95 ≤ 122 := by decide +kernel
      (try simp (maxSteps := 1000000) (dsimp := false) (disch := (first | omega | (simp only [okR]; done) | (simp only [sizeR] <;> omega) | fail)) only [↓preR, postR, ↓w_stop, Nat.reduceEqDiff, Nat.reduceAdd, Nat.reduceSub, Nat.reduceMul, Int.reduceNeg, Nat.reduceLT, Int.reduceToNat, Nat.reduceLeDiff, Nat.sub_zero])
      refine lower_c (c := 95) ?_
      (try simp (maxSteps := 1000000) (dsimp := false) (disch := (first | omega | (simp only [okR]; done) | (simp only [sizeR] <;> omega) | fail)) only [↓preR, postR, ↓w_stop, Nat.reduceEqDiff, Nat.reduceAdd, Nat.reduceSub, Nat.reduceMul, Int.reduceNeg, Nat.reduceLT, Int.reduceToNat, Nat.reduceLeDiff, Nat.sub_zero, o1])
      refine lower_c (c := 95) ?_
      (try simp (maxSteps := 1000000) (dsimp := false) (disch := (first | omega | (simp only [okR]; done) | (simp only [sizeR] <;> omega) | fail)) only [↓preR, postR, ↓w_stop, Nat.reduceEqDiff, Nat.reduceAdd, Nat.reduceSub, Nat.reduceMul, Int.reduceNeg, Nat.reduceLT, Int.reduceToNat, Nat.reduceLeDiff, Nat.sub_zero, o2])
      refine mki_by cc ?_
      (try simp (maxSteps := 1000000) (dsimp := false) (disch := (first | omega | (simp only [okR]; done) | (simp only [sizeR] <;> omega) | fail)) only [↓preR, postR, ↓w_stop, Nat.reduceEqDiff, Nat.reduceAdd, Nat.reduceSub, Nat.reduceMul, Int.reduceNeg, Nat.reduceLT, Int.reduceToNat, Nat.reduceLeDiff, Nat.sub_zero])
      exact bad2 h9
    replace e95 : ¬ (c.toNat : Int) = 95 := fun e => e95 (UInt8.toNat_inj.1 (by show c.toNat = 95; omega))
    have hor := digK_at c
    by_cases d1 : 48 ≤ (c.toNat : Int)
    · by_cases d2 : (c.toNat : Int) ≤ 57
      · have ed : (c.toNat : Int) - 48 = ((c.toNat - 48 : Nat) : Int) := by omega
        have w6 : IntKind.u8.wrap ((c.toNat : Int) - 48) = (c.toNat : Int) - 48 := wrapU8 _ (by omega) (by omega)
        (try simp (maxSteps := 1000000) (dsimp := false) (disch := (first | omega | (simp only [okR]; done) | (simp only [sizeR] <;> omega) | fail)) only [↓preR, postR, ↓w_stop, Nat.reduceEqDiff, Nat.reduceAdd, Nat.reduceSub, Nat.reduceMul, Int.reduceNeg, Nat.reduceLT, Int.reduceToNat, Nat.reduceLeDiff, Nat.sub_zero, e95, d1, d2, w6, ed])
        exact step _ (by unfold digK; rw [if_pos ⟨by omega, by omega⟩]) (by omega)
      have d0 : ¬ (48 ≤ c.toNat ∧ c.toNat ≤ 57) := by omega
      (try simp (maxSteps := 1000000) (dsimp := false) (disch := (first | omega | (simp only [okR]; done) | (simp only [sizeR] <;> omega) | fail)) only [↓preR, postR, ↓w_stop, Nat.reduceEqDiff, Nat.reduceAdd, Nat.reduceSub, Nat.reduceMul, Int.reduceNeg, Nat.reduceLT, Int.reduceToNat, Nat.reduceLeDiff, Nat.sub_zero, e95, d1, d2])
      refine lower_c ?_
      by_cases o1 : 97 ≤ orV c
      · (try simp (maxSteps := 1000000) (dsimp := false) (disch := (first | omega | (simp only [okR]; done) | (simp only [sizeR] <;> omega) | fail)) only [↓preR, postR, ↓w_stop, Nat.reduceEqDiff, Nat.reduceAdd, Nat.reduceSub, Nat.reduceMul, Int.reduceNeg, Nat.reduceLT, Int.reduceToNat, Nat.reduceLeDiff, Nat.sub_zero, o1])
        refine lower_c ?_
        by_cases o2 : orV c ≤ 122
        · have w7 : IntKind.u8.wrap (orV c - 97) = orV c - 97 := wrapU8 _ (by omega) (by omega)
          have w8 : IntKind.u8.wrap (orV c - 97 + 10) = orV c - 97 + 10 := wrapU8 _ (by omega) (by omega)
          have eo : orV c - 97 + 10 = ((orV c - 87).toNat : Int) := by omega
          (try simp (maxSteps := 1000000) (dsimp := false) (disch := (first | omega | (simp only [okR]; done) | (simp only [sizeR] <;> omega) | fail)) only [↓preR, postR, ↓w_stop, Nat.reduceEqDiff, Nat.reduceAdd, Nat.reduceSub, Nat.reduceMul, Int.reduceNeg, Nat.reduceLT, Int.reduceToNat, Nat.reduceLeDiff, Nat.sub_zero, o2])
          refine lower_c ?_
          (try simp (maxSteps := 1000000) (dsimp := false) (disch := (first | omega | (simp only [okR]; done) | (simp only [sizeR] <;> omega) | fail)) only [↓preR, postR, ↓w_stop, Nat.reduceEqDiff, Nat.reduceAdd, Nat.reduceSub, Nat.reduceMul, Int.reduceNeg, Nat.reduceLT, Int.reduceToNat, Nat.reduceLeDiff, Nat.sub_zero, w7, w8, eo])
          exact step _ (by unfold digK; rw [if_neg d0, if_pos ⟨o1, o2⟩]) (by omega)
        · (try simp (maxSteps := 1000000) (dsimp := false) (disch := (first | omega | (simp only [okR]; done) | (simp only [sizeR] <;> omega) | fail)) only [↓preR, postR, ↓w_stop, Nat.reduceEqDiff, Nat.reduceAdd, Nat.reduceSub, Nat.reduceMul, Int.reduceNeg, Nat.reduceLT, Int.reduceToNat, Nat.reduceLeDiff, Nat.sub_zero, o2])
          refine mki_by cc ?_
          (try simp (maxSteps := 1000000) (dsimp := false) (disch := (first | omega | (simp only [okR]; done) | (simp only [sizeR] <;> omega) | fail)) only [↓preR, postR, ↓w_stop, Nat.reduceEqDiff, Nat.reduceAdd, Nat.reduceSub, Nat.reduceMul, Int.reduceNeg, Nat.reduceLT, Int.reduceToNat, Nat.reduceLeDiff, Nat.sub_zero])
          exact bad2 (by unfold digK; rw [if_neg d0, if_neg fun h => o2 h.2])
      · (try simp (maxSteps := 1000000) (dsimp := false) (disch := (first | omega | (simp only [okR]; done) | (simp only [sizeR] <;> omega) | fail)) only [↓preR, postR, ↓w_stop, Nat.reduceEqDiff, Nat.reduceAdd, Nat.reduceSub, Nat.reduceMul, Int.reduceNeg, Nat.reduceLT, Int.reduceToNat, Nat.reduceLeDiff, Nat.sub_zero, o1])
        refine mki_by cc ?_
        (try simp (maxSteps := 1000000) (dsimp := false) (disch := (first | omega | (simp only [okR]; done) | (simp only [sizeR] <;> omega) | fail)) only [↓preR, postR, ↓w_stop, Nat.reduceEqDiff, Nat.reduceAdd, Nat.reduceSub, Nat.reduceMul, Int.reduceNeg, Nat.reduceLT, Int.reduceToNat, Nat.reduceLeDiff, Nat.sub_zero])
        exact bad2 (by unfold digK; rw [if_neg d0, if_neg fun h => o1 h.1])
    · have d0 : ¬ (48 ≤ c.toNat ∧ c.toNat ≤ 57) := by omega
      (try simp (maxSteps := 1000000) (dsimp := false) (disch := (first | omega | (simp only [okR]; done) | (simp only [sizeR] <;> omega) | fail)) only [↓preR, postR, ↓w_stop, Nat.reduceEqDiff, Nat.reduceAdd, Nat.reduceSub, Nat.reduceMul, Int.reduceNeg, Nat.reduceLT, Int.reduceToNat, Nat.reduceLeDiff, Nat.sub_zero, e95, d1])
      refine lower_c ?_
      by_cases o1 : 97 ≤ orV c
      · (try simp (maxSteps := 1000000) (dsimp := false) (disch := (first | omega | (simp only [okR]; done) | (simp only [sizeR] <;> omega) | fail)) only [↓preR, postR, ↓w_stop, Nat.reduceEqDiff, Nat.reduceAdd, Nat.reduceSub, Nat.reduceMul, Int.reduceNeg, Nat.reduceLT, Int.reduceToNat, Nat.reduceLeDiff, Nat.sub_zero, o1])
        refine lower_c ?_
        by_cases o2 : orV c ≤ 122
        · have w7 : IntKind.u8.wrap (orV c - 97) = orV c - 97 := wrapU8 _ (by omega) (by omega)
          have w8 : IntKind.u8.wrap (orV c - 97 + 10) = orV c - 97 + 10 := wrapU8 _ (by omega) (by omega)
          have eo : orV c - 97 + 10 = ((orV c - 87).toNat : Int) := by omega
          (try simp (maxSteps := 1000000) (dsimp := false) (disch := (first | omega | (simp only [okR]; done) | (simp only [sizeR] <;> omega) | fail)) only [↓preR, postR, ↓w_stop, Nat.reduceEqDiff, Nat.reduceAdd, Nat.reduceSub, Nat.reduceMul, Int.reduceNeg, Nat.reduceLT, Int.reduceToNat, Nat.reduceLeDiff, Nat.sub_zero, o2])
          refine lower_c ?_
          (try simp (maxSteps := 1000000) (dsimp := false) (disch := (first | omega | (simp only [okR]; done) | (simp only [sizeR] <;> omega) | fail)) only [↓preR, postR, ↓w_stop, Nat.reduceEqDiff, Nat.reduceAdd, Nat.reduceSub, Nat.reduceMul, Int.reduceNeg, Nat.reduceLT, Int.reduceToNat, Nat.reduceLeDiff, Nat.sub_zero, w7, w8, eo])
          exact step _ (by unfold digK; rw [if_neg d0, if_pos ⟨o1, o2⟩]) (by omega)
        · (try simp (maxSteps := 1000000) (dsimp := false) (disch := (first | omega | (simp only [okR]; done) | (simp only [sizeR] <;> omega) | fail)) only [↓preR, postR, ↓w_stop, Nat.reduceEqDiff, Nat.reduceAdd, Nat.reduceSub, Nat.reduceMul, Int.reduceNeg, Nat.reduceLT, Int.reduceToNat, Nat.reduceLeDiff, Nat.sub_zero, o2])
          refine mki_by cc ?_
          (try simp (maxSteps := 1000000) (dsimp := false) (disch := (first | omega | (simp only [okR]; done) | (simp only [sizeR] <;> omega) | fail)) only [↓preR, postR, ↓w_stop, Nat.reduceEqDiff, Nat.reduceAdd, Nat.reduceSub, Nat.reduceMul, Int.reduceNeg, Nat.reduceLT, Int.reduceToNat, Nat.reduceLeDiff, Nat.sub_zero])
          exact bad2 (by unfold digK; rw [if_neg d0, if_neg fun h => o2 h.2])
      · (try simp (maxSteps := 1000000) (dsimp := false) (disch := (first | omega | (simp only [okR]; done) | (simp only [sizeR] <;> omega) | fail)) only [↓preR, postR, ↓w_stop, Nat.reduceEqDiff, Nat.reduceAdd, Nat.reduceSub, Nat.reduceMul, Int.reduceNeg, Nat.reduceLT, Int.reduceToNat, Nat.reduceLeDiff, Nat.sub_zero, o1])
        refine mki_by cc ?_
        (try simp (maxSteps := 1000000) (dsimp := false) (disch := (first | omega | (simp only [okR]; done) | (simp only [sizeR] <;> omega) | fail)) only [↓preR, postR, ↓w_stop, Nat.reduceEqDiff, Nat.reduceAdd, Nat.reduceSub, Nat.reduceMul, Int.reduceNeg, Nat.reduceLT, Int.reduceToNat, Nat.reduceLeDiff, Nat.sub_zero])
        exact bad2 (by unfold digK; rw [if_neg d0, if_neg fun h => o1 h.1])
  clear hJ4
  rcases hb with rfl | rfl | rfl
  · have hq : IntKind.u64.wrap (IntKind.u64.wrap (18446744073709551615 / 8) + 1) = 2305843009213693952 := by decide +kernel
    (try simp (maxSteps := 1000000) (dsimp := false) (disch := (first | omega | (simp only [okR]; done) | (simp only [sizeR] <;> omega) | fail)) only [↓preR, postR, ↓w_stop, Nat.reduceEqDiff, Nat.reduceAdd, Nat.reduceSub, Nat.reduceMul, Int.reduceNeg, Nat.reduceLT, Int.reduceToNat, Nat.reduceLeDiff, Nat.sub_zero, w1])
    rw [hq]
    exact tail 2305843009213693952 (fun a ha => by omega) (fun a ha => by omega)
  · (try simp (maxSteps := 1000000) (dsimp := false) (disch := (first | omega | (simp only [okR]; done) | (simp only [sizeR] <;> omega) | fail)) only [↓preR, postR, ↓w_stop, Nat.reduceEqDiff, Nat.reduceAdd, Nat.reduceSub, Nat.reduceMul, Int.reduceNeg, Nat.reduceLT, Int.reduceToNat, Nat.reduceLeDiff, Nat.sub_zero])
    exact tail 1844674407370955162 (fun a ha => by omega) (fun a ha => by omega)
  · (try simp (maxSteps := 1000000) (dsimp := false) (disch := (first | omega | (simp only [okR]; done) | (simp only [sizeR] <;> omega) | fail)) only [↓preR, postR, ↓w_stop, Nat.reduceEqDiff, Nat.reduceAdd, Nat.reduceSub, Nat.reduceMul, Int.reduceNeg, Nat.reduceLT, Int.reduceToNat, Nat.reduceLeDiff, Nat.sub_zero])
    exact tail 1152921504606846976 (fun a ha => by omega) (fun a ha => by omega)
end
end Go.Proofs.YtkbpbagjbjkpmaaGreatDoor
