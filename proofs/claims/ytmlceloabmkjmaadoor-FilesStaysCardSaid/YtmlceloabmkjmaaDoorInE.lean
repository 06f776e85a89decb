/- Nodes: fewer names and users; reading. Conditions: as each theorem says. -/
import Derived.Test.YtmlceloabmkjmaaDoorInD
namespace Go.Proofs.YtmlceloabmkjmaaDoor
open E Go.Lib
set_option linter.unusedVariables false
set_option linter.unusedSimpArgs false
set_option maxHeartbeats 1000000
set_option maxRecDepth 20000

/-- The byte at a place. -/
def bAt (l : List (Int × Int)) (st : List Bk) (j : Nat) : UInt8 := match l.lookup ((j / 64 : Nat) : Int) with | some b => (bytesM st b)[j % 64]?.getD 0 | none => 0
section
variable {σ σ' : AS} {X : Ce} {R : List Ck} {k : Value → AS → Prop} {t nb sp n : Nat} {st : List Bk} {ns : Nl} {d d' : Nd} {vals : List Value} {i : Int} {j : Nat}
theorem less_c (o : Nat) (h : Hs σ X (TL t nb sp st ns R)) (hj : ns[j]? = some (some d)) (hn : ns.length ≤ 1024) (hp : PartsOk st d.parts) (hk0 : ∀ p, p ∈ d.parts → 0 ≤ p.1) (v : Int) (hv1 : -1000000 ≤ v) (hv2 : v ≤ 1000000)
    (ho : (o = 0 ∧ v = d.names ∧ d' = ⟨d.q, d.m, d.names - 1, d.users, d.kind, d.size, d.parts⟩) ∨ (o = 1 ∧ v = d.users ∧ d' = ⟨d.q, d.m, d.names, d.users - 1, d.kind, d.size, d.parts⟩))
    (hz : v = 0 → k (.int .i64 23) σ) (hl : ∀ σ', v ≠ 0 → ¬ (d'.names = 0 ∧ d'.users = 0) → Hs σ' X (TL t nb sp st (ns.set j (some d')) R) → k (.int .i64 0) σ')
    (hg : ∀ σ', v ≠ 0 → d'.names = 0 → d'.users = 0 → Hs σ' X (TL t nb sp (gv st (d.parts.map (·.2))) (ns.set j none) R) → k (.int .i64 0) σ') :
    kCall Tryd.prog 55 [pp t, .int .i64 ((j : Int) + 1), pp d.q, .pointer (some ⟨d.q, o, none⟩)] σ k := by
  refine f55 ?_
  have hlt : j < ns.length := (List.getElem?_eq_some_iff.1 hj).1
  have h1 := node_open h hj
  have hn' : (ns.length : Int) ≤ 1024 := by omega
  have ejj : ((j : Int) + 1 - 1).toNat = j := by omega
  have e0 : (d.parts.filter fun p => decide ((0 : Int) ≤ p.1)) = d.parts := List.filter_eq_self.2 (fun p hp => by simpa using hk0 p hp)
  have last : ∀ s, v ≠ 0 → Hs s X (OPN d' t nb sp ns.length (ns.map ndV) st ((ns.map NdK ++ R).eraseIdx j)) → d'.q = d.q → d'.parts = d.parts → d'.names = 0 → d'.users = 0 → ∀ K : Value → AS → Prop,
      (∀ s', Hs s' X (Cel t [.slice (some ⟨nb, 0, none⟩) ns.length ns.length, pp sp] :: Cel nb (ns.map ndV) :: StC sp (gv st (d.parts.map (·.2))) :: (ns.map NdK ++ R).eraseIdx j) → K undef s') → kCall Tryd.prog 51 [pp t, pp d.q, .int .i64 0] s K := by
    intro s hv0 hs hq hpa hna hus K hK
    rw [← hq]
    refine drop_c hs (by rw [hpa]; exact hp) fun s3 h3 => ?_
    rw [hpa, e0] at h3
    exact hK _ h3.drop.drop
  have fin : ∀ s', v ≠ 0 → d'.names = 0 → d'.users = 0 → Hs s' X (Cel t [.slice (some ⟨nb, 0, none⟩) ns.length ns.length, pp sp] :: Cel nb (ns.map ndV) :: StC sp (gv st (d.parts.map (·.2))) :: (ns.map NdK ++ R).eraseIdx j) → k (.int .i64 0) (s'.put nb (.cells ((ns.map ndV).set j (.pointer none)))) := by
    intro s' hv0 hna hus h3
    refine hg _ hv0 hna hus (node_close0 hlt ?_)
    have h4 := h3.put1 (cs' := (ns.map ndV).set j (.pointer none))
    rw [List.map_set]
    exact Hs.closed (p := fun _ : Unit => True) () trivial h4
  rcases ho with ⟨rfl, rfl, rfl⟩ | ⟨rfl, rfl, rfl⟩
  · by_cases hv0 : d.names = 0
    · (try simp (maxSteps := 1000000) (dsimp := false) (disch := (first | omega | (simp only [okR]; done) | (simp only [sizeR] <;> omega) | fail)) only [↓preR, postR, ↓w_join, Nat.reduceEqDiff, Nat.reduceAdd, Nat.reduceSub, Nat.reduceMul, Int.reduceNeg, Nat.reduceLT, Int.reduceToNat, Nat.reduceLeDiff, Nat.sub_zero, F55, h1.obj])
      exact hz hv0
    (simp (maxSteps := 1000000) (dsimp := false) (disch := (first | omega | (simp only [okR]; done) | (simp only [sizeR] <;> omega) | fail)) only [↓preR, postR, ↓w_join, Nat.reduceEqDiff, Nat.reduceAdd, Nat.reduceSub, Nat.reduceMul, Int.reduceNeg, Nat.reduceLT, Int.reduceToNat, Nat.reduceLeDiff, Nat.sub_zero, F55, h1.obj])
    have h2 := h1.put (cs' := ndC ⟨d.q, d.m, d.names - 1, d.users, d.kind, d.size, d.parts⟩)
    refine idle_c fun jj => ?_
    by_cases hc : d.names - 1 = 0 ∧ d.users = 0
    · rw [decide_eq_true hc]
      (try simp (maxSteps := 1000000) (dsimp := false) (disch := (first | omega | (simp only [okR]; done) | (simp only [sizeR] <;> omega) | fail)) only [↓preR, postR, ↓w_join, Nat.reduceEqDiff, Nat.reduceAdd, Nat.reduceSub, Nat.reduceMul, Int.reduceNeg, Nat.reduceLT, Int.reduceToNat, Nat.reduceLeDiff, Nat.sub_zero])
      refine last _ hv0 (h2.up jj) rfl rfl hc.1 hc.2 _ fun s3 h3 => ?_
      have hm := h3.obj1
      (try simp (maxSteps := 1000000) (dsimp := false) (disch := (first | omega | (simp only [okR]; done) | (simp only [sizeR] <;> omega) | fail)) only [↓preR, postR, ↓w_join, Nat.reduceEqDiff, Nat.reduceAdd, Nat.reduceSub, Nat.reduceMul, Int.reduceNeg, Nat.reduceLT, Int.reduceToNat, Nat.reduceLeDiff, Nat.sub_zero, h3.obj, hm, ln_map, ejj])
      exact fin _ hv0 hc.1 hc.2 h3
    · rw [decide_eq_false hc]
      (try simp (maxSteps := 1000000) (dsimp := false) (disch := (first | omega | (simp only [okR]; done) | (simp only [sizeR] <;> omega) | fail)) only [↓preR, postR, ↓w_join, Nat.reduceEqDiff, Nat.reduceAdd, Nat.reduceSub, Nat.reduceMul, Int.reduceNeg, Nat.reduceLT, Int.reduceToNat, Nat.reduceLeDiff, Nat.sub_zero])
      exact hl _ hv0 hc (node_close hj rfl (h2.up jj))
  · by_cases hv0 : d.users = 0
    · (try simp (maxSteps := 1000000) (dsimp := false) (disch := (first | omega | (simp only [okR]; done) | (simp only [sizeR] <;> omega) | fail)) only [↓preR, postR, ↓w_join, Nat.reduceEqDiff, Nat.reduceAdd, Nat.reduceSub, Nat.reduceMul, Int.reduceNeg, Nat.reduceLT, Int.reduceToNat, Nat.reduceLeDiff, Nat.sub_zero, F55, h1.obj])
      exact hz hv0
    (simp (maxSteps := 1000000) (dsimp := false) (disch := (first | omega | (simp only [okR]; done) | (simp only [sizeR] <;> omega) | fail)) only [↓preR, postR, ↓w_join, Nat.reduceEqDiff, Nat.reduceAdd, Nat.reduceSub, Nat.reduceMul, Int.reduceNeg, Nat.reduceLT, Int.reduceToNat, Nat.reduceLeDiff, Nat.sub_zero, F55, h1.obj])
    have h2 := h1.put (cs' := ndC ⟨d.q, d.m, d.names, d.users - 1, d.kind, d.size, d.parts⟩)
    refine idle_c fun jj => ?_
    by_cases hc : d.names = 0 ∧ d.users - 1 = 0
    · rw [decide_eq_true hc]
      (try simp (maxSteps := 1000000) (dsimp := false) (disch := (first | omega | (simp only [okR]; done) | (simp only [sizeR] <;> omega) | fail)) only [↓preR, postR, ↓w_join, Nat.reduceEqDiff, Nat.reduceAdd, Nat.reduceSub, Nat.reduceMul, Int.reduceNeg, Nat.reduceLT, Int.reduceToNat, Nat.reduceLeDiff, Nat.sub_zero])
      refine last _ hv0 (h2.up jj) rfl rfl hc.1 hc.2 _ fun s3 h3 => ?_
      have hm := h3.obj1
      (try simp (maxSteps := 1000000) (dsimp := false) (disch := (first | omega | (simp only [okR]; done) | (simp only [sizeR] <;> omega) | fail)) only [↓preR, postR, ↓w_join, Nat.reduceEqDiff, Nat.reduceAdd, Nat.reduceSub, Nat.reduceMul, Int.reduceNeg, Nat.reduceLT, Int.reduceToNat, Nat.reduceLeDiff, Nat.sub_zero, h3.obj, hm, ln_map, ejj])
      exact fin _ hv0 hc.1 hc.2 h3
    · rw [decide_eq_false hc]
      (try simp (maxSteps := 1000000) (dsimp := false) (disch := (first | omega | (simp only [okR]; done) | (simp only [sizeR] <;> omega) | fail)) only [↓preR, postR, ↓w_join, Nat.reduceEqDiff, Nat.reduceAdd, Nat.reduceSub, Nat.reduceMul, Int.reduceNeg, Nat.reduceLT, Int.reduceToNat, Nat.reduceLeDiff, Nat.sub_zero])
      exact hl _ hv0 hc (node_close hj rfl (h2.up jj))
theorem untie_c (h : Hs σ X (TL t nb sp st ns R)) (hn : ns.length ≤ 1024) (hb : nodeAt ns i = none → k (.int .i64 23) σ)
    (hok : ∀ d, nodeAt ns i = some d → PartsOk st d.parts ∧ (∀ p, p ∈ d.parts → 0 ≤ p.1) ∧ -1000000 ≤ d.names ∧ d.names ≤ 1000000)
    (hz : ∀ d, nodeAt ns i = some d → d.names = 0 → k (.int .i64 23) σ)
    (hl : ∀ d σ', nodeAt ns i = some d → d.names ≠ 0 → ¬ (d.names - 1 = 0 ∧ d.users = 0) → Hs σ' X (TL t nb sp st (ns.set (i - 1).toNat (some ⟨d.q, d.m, d.names - 1, d.users, d.kind, d.size, d.parts⟩)) R) → k (.int .i64 0) σ')
    (hg : ∀ d σ', nodeAt ns i = some d → d.names ≠ 0 → d.names - 1 = 0 → d.users = 0 → Hs σ' X (TL t nb sp (gv st (d.parts.map (·.2))) (ns.set (i - 1).toNat none) R) → k (.int .i64 0) σ') :
    kCall Tryd.prog 48 [pp t, .int .i64 i] σ k := by
  refine f48 ?_
  (try simp (maxSteps := 1000000) (dsimp := false) (disch := (first | omega | (simp only [okR]; done) | (simp only [sizeR] <;> omega) | fail)) only [↓preR, postR, ↓w_join, Nat.reduceEqDiff, Nat.reduceAdd, Nat.reduceSub, Nat.reduceMul, Int.reduceNeg, Nat.reduceLT, Int.reduceToNat, Nat.reduceLeDiff, Nat.sub_zero, F48])
  refine find_c h hn (fun hd => ?_) (fun d hd => ?_)
  · (try simp (maxSteps := 1000000) (dsimp := false) (disch := (first | omega | (simp only [okR]; done) | (simp only [sizeR] <;> omega) | fail)) only [↓preR, postR, ↓w_join, Nat.reduceEqDiff, Nat.reduceAdd, Nat.reduceSub, Nat.reduceMul, Int.reduceNeg, Nat.reduceLT, Int.reduceToNat, Nat.reduceLeDiff, Nat.sub_zero]); exact hb hd
  · obtain ⟨hi1, hi2, hj⟩ := nodeAt_some hd
    obtain ⟨h1, h2, h3, h4⟩ := hok d hd
    have ei : i = (((i - 1).toNat : Nat) : Int) + 1 := by omega
    (simp (maxSteps := 1000000) (dsimp := false) (disch := (first | omega | (simp only [okR]; done) | (simp only [sizeR] <;> omega) | fail)) only [↓preR, postR, ↓w_join, Nat.reduceEqDiff, Nat.reduceAdd, Nat.reduceSub, Nat.reduceMul, Int.reduceNeg, Nat.reduceLT, Int.reduceToNat, Nat.reduceLeDiff, Nat.sub_zero])
    rw [ei]
    refine less_c 0 h hj hn h1 h2 d.names h3 h4 (.inl ⟨rfl, rfl, rfl⟩) (fun h0 => ?_) (fun s h5 h6 h7 => ?_) (fun s h5 h6 h7 h8 => ?_)
    · (try simp (maxSteps := 1000000) (dsimp := false) (disch := (first | omega | (simp only [okR]; done) | (simp only [sizeR] <;> omega) | fail)) only [↓preR, postR, ↓w_join, Nat.reduceEqDiff, Nat.reduceAdd, Nat.reduceSub, Nat.reduceMul, Int.reduceNeg, Nat.reduceLT, Int.reduceToNat, Nat.reduceLeDiff, Nat.sub_zero]); exact hz d hd h0
    · (try simp (maxSteps := 1000000) (dsimp := false) (disch := (first | omega | (simp only [okR]; done) | (simp only [sizeR] <;> omega) | fail)) only [↓preR, postR, ↓w_join, Nat.reduceEqDiff, Nat.reduceAdd, Nat.reduceSub, Nat.reduceMul, Int.reduceNeg, Nat.reduceLT, Int.reduceToNat, Nat.reduceLeDiff, Nat.sub_zero]); exact hl d s hd h5 h6 h7
    · (try simp (maxSteps := 1000000) (dsimp := false) (disch := (first | omega | (simp only [okR]; done) | (simp only [sizeR] <;> omega) | fail)) only [↓preR, postR, ↓w_join, Nat.reduceEqDiff, Nat.reduceAdd, Nat.reduceSub, Nat.reduceMul, Int.reduceNeg, Nat.reduceLT, Int.reduceToNat, Nat.reduceLeDiff, Nat.sub_zero]); exact hg d s hd h5 h6 h7 h8
theorem loose_c (h : Hs σ X (TL t nb sp st ns R)) (hn : ns.length ≤ 1024) (hb : nodeAt ns i = none → k (.int .i64 23) σ)
    (hok : ∀ d, nodeAt ns i = some d → PartsOk st d.parts ∧ (∀ p, p ∈ d.parts → 0 ≤ p.1) ∧ -1000000 ≤ d.users ∧ d.users ≤ 1000000)
    (hz : ∀ d, nodeAt ns i = some d → d.users = 0 → k (.int .i64 23) σ)
    (hl : ∀ d σ', nodeAt ns i = some d → d.users ≠ 0 → ¬ (d.names = 0 ∧ d.users - 1 = 0) → Hs σ' X (TL t nb sp st (ns.set (i - 1).toNat (some ⟨d.q, d.m, d.names, d.users - 1, d.kind, d.size, d.parts⟩)) R) → k (.int .i64 0) σ')
    (hg : ∀ d σ', nodeAt ns i = some d → d.users ≠ 0 → d.names = 0 → d.users - 1 = 0 → Hs σ' X (TL t nb sp (gv st (d.parts.map (·.2))) (ns.set (i - 1).toNat none) R) → k (.int .i64 0) σ') :
    kCall Tryd.prog 45 [pp t, .int .i64 i] σ k := by
  refine f45 ?_
  (try simp (maxSteps := 1000000) (dsimp := false) (disch := (first | omega | (simp only [okR]; done) | (simp only [sizeR] <;> omega) | fail)) only [↓preR, postR, ↓w_join, Nat.reduceEqDiff, Nat.reduceAdd, Nat.reduceSub, Nat.reduceMul, Int.reduceNeg, Nat.reduceLT, Int.reduceToNat, Nat.reduceLeDiff, Nat.sub_zero, F45])
  refine find_c h hn (fun hd => ?_) (fun d hd => ?_)
  · (try simp (maxSteps := 1000000) (dsimp := false) (disch := (first | omega | (simp only [okR]; done) | (simp only [sizeR] <;> omega) | fail)) only [↓preR, postR, ↓w_join, Nat.reduceEqDiff, Nat.reduceAdd, Nat.reduceSub, Nat.reduceMul, Int.reduceNeg, Nat.reduceLT, Int.reduceToNat, Nat.reduceLeDiff, Nat.sub_zero]); exact hb hd
  · obtain ⟨hi1, hi2, hj⟩ := nodeAt_some hd
    obtain ⟨h1, h2, h3, h4⟩ := hok d hd
    have ei : i = (((i - 1).toNat : Nat) : Int) + 1 := by omega
    (simp (maxSteps := 1000000) (dsimp := false) (disch := (first | omega | (simp only [okR]; done) | (simp only [sizeR] <;> omega) | fail)) only [↓preR, postR, ↓w_join, Nat.reduceEqDiff, Nat.reduceAdd, Nat.reduceSub, Nat.reduceMul, Int.reduceNeg, Nat.reduceLT, Int.reduceToNat, Nat.reduceLeDiff, Nat.sub_zero])
    rw [ei]
    refine less_c 1 h hj hn h1 h2 d.users h3 h4 (.inr ⟨rfl, rfl, rfl⟩) (fun h0 => ?_) (fun s h5 h6 h7 => ?_) (fun s h5 h6 h7 h8 => ?_)
    · (try simp (maxSteps := 1000000) (dsimp := false) (disch := (first | omega | (simp only [okR]; done) | (simp only [sizeR] <;> omega) | fail)) only [↓preR, postR, ↓w_join, Nat.reduceEqDiff, Nat.reduceAdd, Nat.reduceSub, Nat.reduceMul, Int.reduceNeg, Nat.reduceLT, Int.reduceToNat, Nat.reduceLeDiff, Nat.sub_zero]); exact hz d hd h0
    · (try simp (maxSteps := 1000000) (dsimp := false) (disch := (first | omega | (simp only [okR]; done) | (simp only [sizeR] <;> omega) | fail)) only [↓preR, postR, ↓w_join, Nat.reduceEqDiff, Nat.reduceAdd, Nat.reduceSub, Nat.reduceMul, Int.reduceNeg, Nat.reduceLT, Int.reduceToNat, Nat.reduceLeDiff, Nat.sub_zero]); exact hl d s hd h5 h6 h7
    · (try simp (maxSteps := 1000000) (dsimp := false) (disch := (first | omega | (simp only [okR]; done) | (simp only [sizeR] <;> omega) | fail)) only [↓preR, postR, ↓w_join, Nat.reduceEqDiff, Nat.reduceAdd, Nat.reduceSub, Nat.reduceMul, Int.reduceNeg, Nat.reduceLT, Int.reduceToNat, Nat.reduceLeDiff, Nat.sub_zero]); exact hg d s hd h5 h6 h7 h8

/-! ### Reading -/
def bytesOf (l : List (Int × Int)) (st : List Bk) (a m : Nat) : List UInt8 := (List.range m).map fun x => bAt l st (a + x)
/-- What a read has filled. -/
def fillC (l : List (Int × Int)) (st : List Bk) (a m done : Nat) : List Value := (List.range m).map fun x => u8 (if x < done then bAt l st (a + x) else 0)
theorem fillC_len (l : List (Int × Int)) (st : List Bk) (a m done : Nat) : (fillC l st a m done).length = m := by simp [fillC]
theorem fillC_all (l : List (Int × Int)) (st : List Bk) (a m : Nat) : fillC l st a m m = (bytesOf l st a m).map u8 := by
  unfold fillC bytesOf
  rw [List.map_map]
  refine List.map_congr_left (fun x hx => ?_)
  simp [List.mem_range.1 hx]
theorem fillC_zero (l : List (Int × Int)) (st : List Bk) (a m : Nat) : List.replicate m (Value.int .u8 0) = fillC l st a m 0 := by
  apply List.ext_getElem
  · simp [fillC]
  · intro i h1 h2
    simp [fillC, u8]
/-- The bytes of a piece of a block. -/
theorem piece_at {l : List (Int × Int)} {st : List Bk} {pos many : Nat} {b : Int} (hl : l.lookup ((pos / 64 : Nat) : Int) = some b) (hm : pos % 64 + many ≤ 64) (x : Nat) (hx : x < many) : bAt l st (pos + x) = (bytesM st b)[pos % 64 + x]?.getD 0 := by
  have e1 : (pos + x) / 64 = pos / 64 := by omega
  have e2 : (pos + x) % 64 = pos % 64 + x := by omega
  unfold bAt
  rw [e1, e2, hl]
theorem piece_none {l : List (Int × Int)} {st : List Bk} {pos many : Nat} (hl : l.lookup ((pos / 64 : Nat) : Int) = none) (hm : pos % 64 + many ≤ 64) (x : Nat) (hx : x < many) : bAt l st (pos + x) = 0 := by
  have e1 : (pos + x) / 64 = pos / 64 := by omega
  unfold bAt
  rw [e1, hl]
theorem read_at' {st : List Bk} (ho : Ok64 st) {l : List (Int × Int)} (hp : PartsOk st l) {p b : Int} (hl : l.lookup p = some b) (off many : Nat) (hm : off + many ≤ 64) : readM st b off many = (((bytesM st b).drop off).take many, 0) ∧ (bytesM st b).length = 64 := by
  obtain ⟨h1, h2, h3⟩ := hp.inn _ (by
    have : (p, b) ∈ l := by
      clear hp
      induction l with
      | nil => cases hl
      | cons e l ih =>
        rw [List.lookup_cons] at hl
        split at hl
        · rename_i he
          obtain rfl : p = e.1 := by simpa using he
          injection hl with hl; subst hl; simp
        · exact List.mem_cons_of_mem _ (ih hl)
    exact this)
  have hi : (b - 1).toNat < st.length := by omega
  have hb : b = (((b - 1).toNat : Nat) : Int) + 1 := by omega
  have ht : st[(b - 1).toNat].1 = true := by
    rw [List.getElem?_eq_getElem hi] at h3
    simpa using h3
  rw [hb, read_at st _ off many hi ht hm, bytesM_at st _ hi]
  exact ⟨rfl, ho _ (List.getElem_mem hi)⟩
theorem iread_c {at_ nn : Int} (h : Hs σ X (TL t nb sp st ns R)) (hn : ns.length ≤ 1024) (hb : nodeAt ns i = none → k (.tuple #[.string (bs []), .int .i64 23]) σ)
    (hok : ∀ d, nodeAt ns i = some d → PartsOk st d.parts ∧ 0 ≤ d.size ∧ d.size ≤ 4096)
    (ha : ∀ d, nodeAt ns i = some d → (at_ < 0 ∨ nn < 0) → k (.tuple #[.string (bs []), .int .i64 1]) σ)
    (he : ∀ d, nodeAt ns i = some d → 0 ≤ at_ → 0 ≤ nn → d.size ≤ at_ → k (.tuple #[.string (bs []), .int .i64 0]) σ)
    (hr : ∀ d σ', nodeAt ns i = some d → 0 ≤ at_ → 0 ≤ nn → at_ < d.size → Hs σ' X (TL t nb sp st ns R) → k (.tuple #[.string (bs (bytesOf d.parts st at_.toNat (min nn (d.size - at_)).toNat)), .int .i64 0]) σ') :
    kCall Tryd.prog 29 [pp t, .int .i64 i, .int .i64 at_, .int .i64 nn] σ k := by
  refine f29 ?_
  (try simp (maxSteps := 1000000) (dsimp := false) (disch := (first | omega | (simp only [okR]; done) | (simp only [sizeR] <;> omega) | fail)) only [↓preR, postR, ↓w_join, Nat.reduceEqDiff, Nat.reduceAdd, Nat.reduceSub, Nat.reduceMul, Int.reduceNeg, Nat.reduceLT, Int.reduceToNat, Nat.reduceLeDiff, Nat.sub_zero, F29])
  refine find_c h hn (fun hd => ?_) (fun d hd => ?_)
  · (try simp (maxSteps := 1000000) (dsimp := false) (disch := (first | omega | (simp only [okR]; done) | (simp only [sizeR] <;> omega) | fail)) only [↓preR, postR, ↓w_join, Nat.reduceEqDiff, Nat.reduceAdd, Nat.reduceSub, Nat.reduceMul, Int.reduceNeg, Nat.reduceLT, Int.reduceToNat, Nat.reduceLeDiff, Nat.sub_zero]); exact hb hd
  obtain ⟨hi1, hi2, hj⟩ := nodeAt_some hd
  obtain ⟨hp, hs0, hs1⟩ := hok d hd
  have h1 := node_open h hj
  obtain ⟨h64, _⟩ := (h1.front 4 rfl).stoOk
  by_cases a0 : at_ < 0
  · (try simp (maxSteps := 1000000) (dsimp := false) (disch := (first | omega | (simp only [okR]; done) | (simp only [sizeR] <;> omega) | fail)) only [↓preR, postR, ↓w_join, Nat.reduceEqDiff, Nat.reduceAdd, Nat.reduceSub, Nat.reduceMul, Int.reduceNeg, Nat.reduceLT, Int.reduceToNat, Nat.reduceLeDiff, Nat.sub_zero]); exact ha d hd (.inl a0)
  by_cases n0 : nn < 0
  · (try simp (maxSteps := 1000000) (dsimp := false) (disch := (first | omega | (simp only [okR]; done) | (simp only [sizeR] <;> omega) | fail)) only [↓preR, postR, ↓w_join, Nat.reduceEqDiff, Nat.reduceAdd, Nat.reduceSub, Nat.reduceMul, Int.reduceNeg, Nat.reduceLT, Int.reduceToNat, Nat.reduceLeDiff, Nat.sub_zero]); exact ha d hd (.inr n0)
  by_cases ae : d.size ≤ at_
  · (try simp (maxSteps := 1000000) (dsimp := false) (disch := (first | omega | (simp only [okR]; done) | (simp only [sizeR] <;> omega) | fail)) only [↓preR, postR, ↓w_join, Nat.reduceEqDiff, Nat.reduceAdd, Nat.reduceSub, Nat.reduceMul, Int.reduceNeg, Nat.reduceLT, Int.reduceToNat, Nat.reduceLeDiff, Nat.sub_zero, h1.obj]); exact he d hd (by omega) (by omega) ae
  have hr' := hr d
  obtain ⟨m, hm⟩ : ∃ m : Nat, (m : Int) = min nn (d.size - at_) := ⟨(min nn (d.size - at_)).toNat, by omega⟩
  have hm' : (min nn (d.size - at_)).toNat = m := by omega
  have hm4 : m ≤ 4096 := by omega
  have hm4' : (m : Int) ≤ 4096 := by omega
  rw [hm'] at hr'
  obtain ⟨a, ea⟩ : ∃ a : Nat, at_ = a := ⟨at_.toNat, by omega⟩
  subst ea
  simp only [Int.toNat_natCast] at hr'
  have hmi : (if d.size - (a : Int) < nn then d.size - (a : Int) else nn) = (m : Int) := by split <;> omega
  (simp (maxSteps := 1000000) (dsimp := false) (disch := (first | omega | (simp only [okR]; done) | (simp only [sizeR] <;> omega) | fail)) only [↓preR, postR, ↓w_join, Nat.reduceEqDiff, Nat.reduceAdd, Nat.reduceSub, Nat.reduceMul, Int.reduceNeg, Nat.reduceLT, Int.reduceToNat, Nat.reduceLeDiff, Nat.sub_zero, h1.obj, hmi])
  have h2 := h1.new (cs := fillC d.parts st a m 0)
  have e0 : (List.replicate m [Value.int .u8 0]).flatten = fillC d.parts st a m 0 := by
    rw [← fillC_zero]
    clear h2 hm hm' hm4 hm4' hmi hr'
    induction m with
    | zero => rfl
    | succ m ih => rw [List.replicate_succ, List.replicate_succ, List.flatten_cons, ih]; rfl
  rw [e0]
  generalize σ.n = ob at h2 ⊢
  refine loop_inv (fun n xs s => ∃ done : Nat, xs = [.int .i64 done] ∧ done ≤ m ∧ Hs s X (Cel ob (fillC d.parts st a m done) :: OPN d t nb sp ns.length (ns.map ndV) st ((ns.map NdK ++ R).eraseIdx (i - 1).toNat)) ∧ n = m - done) _ ⟨0, rfl, by omega, h2, rfl⟩ ?_
  rintro n _ s again ⟨done, rfl, hd1, h3, rfl⟩ hag
  by_cases hlt : done < m
  · have hlt' : (done : Int) < m := by omega
    obtain ⟨pos, hpos⟩ : ∃ pos, pos = a + done := ⟨_, rfl⟩
    obtain ⟨many, hmany⟩ : ∃ many, many = min (m - done) (64 - pos % 64) := ⟨_, rfl⟩
    have hq : ((a : Int) + (done : Int)) / 64 = ((pos / 64 : Nat) : Int) := by omega
    have hr2 : ((a : Int) + (done : Int)) % 64 = ((pos % 64 : Nat) : Int) := by omega
    have hmn : (if (64 : Int) - ((pos % 64 : Nat) : Int) < (m : Int) - (done : Int) then (64 : Int) - ((pos % 64 : Nat) : Int) else (m : Int) - (done : Int)) = ((many : Nat) : Int) := by split <;> omega
    have hle : pos % 64 + many ≤ 64 := by omega
    have hm1 : 1 ≤ many := by omega
    have hdm : done + many ≤ m := by omega
    have hs4 : (a : Int) + done ≤ 4096 := by omega
    have nxt : ∀ s', Hs s' X (Cel ob (fillC d.parts st a m (done + many)) :: OPN d t nb sp ns.length (ns.map ndV) st ((ns.map NdK ++ R).eraseIdx (i - 1).toNat)) → again [.int .i64 ((done : Int) + (many : Int))] s' := fun s' h' => hag _ _ _ ⟨done + many, by simp, hdm, h', rfl⟩ (by omega)
    (simp (maxSteps := 1000000) (dsimp := false) (disch := (first | omega | (simp only [okR]; done) | (simp only [sizeR] <;> omega) | fail)) only [↓preR, postR, ↓w_join, Nat.reduceEqDiff, Nat.reduceAdd, Nat.reduceSub, Nat.reduceMul, Int.reduceNeg, Nat.reduceLT, Int.reduceToNat, Nat.reduceLeDiff, Nat.sub_zero, h3.obj1, hq, hr2, hmn])
    refine plk _ h3.drop (fun b hl => ?_) (fun hl => ?_)
    · obtain ⟨hrd, hb64⟩ := read_at' h64 hp hl (pos % 64) many hle
      (simp (maxSteps := 1000000) (dsimp := false) (disch := (first | omega | (simp only [okR]; done) | (simp only [sizeR] <;> omega) | fail)) only [↓preR, postR, ↓w_join, Nat.reduceEqDiff, Nat.reduceAdd, Nat.reduceSub, Nat.reduceMul, Int.reduceNeg, Nat.reduceLT, Int.reduceToNat, Nat.reduceLeDiff, Nat.sub_zero, h3.obj3])
      refine s_read b _ _ (h3.front 5 rfl) ?_
      rw [hrd]
      (simp (maxSteps := 1000000) (dsimp := false) (disch := (first | omega | (simp only [okR]; done) | (simp only [sizeR] <;> omega) | fail)) only [↓preR, postR, ↓w_join, Nat.reduceEqDiff, Nat.reduceAdd, Nat.reduceSub, Nat.reduceMul, Int.reduceNeg, Nat.reduceLT, Int.reduceToNat, Nat.reduceLeDiff, Nat.sub_zero])
      refine cpy_str Tryd.underlying88 (by kernel_rfl) h3.obj (by simp; omega) (by rw [fillC_len]; simp; omega) ?_
      (try simp (maxSteps := 1000000) (dsimp := false) (disch := (first | omega | (simp only [okR]; done) | (simp only [sizeR] <;> omega) | fail)) only [↓preR, postR, ↓w_join, Nat.reduceEqDiff, Nat.reduceAdd, Nat.reduceSub, Nat.reduceMul, Int.reduceNeg, Nat.reduceLT, Int.reduceToNat, Nat.reduceLeDiff, Nat.sub_zero])
      refine nxt _ ?_
      have h4 := h3.put (cs' := fillC d.parts st a m (done + many))
      have e : (fillC d.parts st a m done).take done ++ (((bytesM st b).drop (pos % 64)).take many).map (fun b => Value.int .u8 b.toNat) ++ (fillC d.parts st a m done).drop (done + (((bytesM st b).drop (pos % 64)).take many).length) = fillC d.parts st a m (done + many) := by
        have hlen : (((bytesM st b).drop (pos % 64)).take many).length = many := by simp; omega
        rw [hlen]
        apply List.ext_getElem?
        intro x
        by_cases hx : x < m
        · have g : (fillC d.parts st a m (done + many))[x]? = some (u8 (if x < done + many then bAt d.parts st (a + x) else 0)) := by simp [fillC, hx]
          have g0 : (fillC d.parts st a m done)[x]? = some (u8 (if x < done then bAt d.parts st (a + x) else 0)) := by simp [fillC, hx]
          rw [g]
          by_cases h1 : x < done
          · rw [List.append_assoc, List.getElem?_append_left (by simp [fillC_len]; omega), List.getElem?_take, if_pos h1, g0]
            have : x < done + many := by omega
            simp [h1, this]
          · by_cases h2 : x < done + many
            · rw [List.append_assoc, List.getElem?_append_right (by simp [fillC_len]; omega), List.getElem?_append_left (by simp [fillC_len]; omega)]
              have e1 : ((fillC d.parts st a m done).take done).length = done := by simp [fillC_len]; omega
              have hpc := piece_at (l := d.parts) (st := st) (pos := pos) (many := many) (b := b) hl hle (x - done) (by omega)
              have e2 : pos + (x - done) = a + x := by omega
              rw [e2] at hpc
              rw [e1, List.getElem?_map, List.getElem?_take, if_pos (by omega), List.getElem?_drop, if_pos h2, hpc]
              have : pos % 64 + (x - done) < (bytesM st b).length := by omega
              rw [List.getElem?_eq_getElem this]
              rfl
            · rw [List.getElem?_append_right (by simp [fillC_len]; omega), List.getElem?_drop]
              have e1 : ((fillC d.parts st a m done).take done ++ (((bytesM st b).drop (pos % 64)).take many).map (fun b => Value.int .u8 b.toNat)).length = done + many := by
                rw [List.length_append, List.length_map, hlen, List.length_take, fillC_len]; omega
              rw [e1, show done + many + (x - (done + many)) = x from by omega, g0, if_neg h1, if_neg h2]
        · rw [List.getElem?_eq_none (by
            rw [List.length_append, List.length_append, List.length_map, hlen, List.length_take, List.length_drop, fillC_len]; omega), List.getElem?_eq_none (by rw [fillC_len]; omega)]
      rw [e]
      exact h4
    · (try simp (maxSteps := 1000000) (dsimp := false) (disch := (first | omega | (simp only [okR]; done) | (simp only [sizeR] <;> omega) | fail)) only [↓preR, postR, ↓w_join, Nat.reduceEqDiff, Nat.reduceAdd, Nat.reduceSub, Nat.reduceMul, Int.reduceNeg, Nat.reduceLT, Int.reduceToNat, Nat.reduceLeDiff, Nat.sub_zero])
      refine nxt _ ?_
      have e : fillC d.parts st a m (done + many) = fillC d.parts st a m done := by
        unfold fillC
        refine List.map_congr_left (fun x hx => ?_)
        by_cases h1 : x < done
        · have : x < done + many := by omega
          simp [h1, this]
        · by_cases h2 : x < done + many
          · have hpc := piece_none (l := d.parts) (st := st) (pos := pos) (many := many) hl hle (x - done) (by omega)
            have e2 : pos + (x - done) = a + x := by omega
            rw [e2] at hpc
            simp [h1, h2, hpc]
          · simp [h1, h2]
      rw [e]
      exact h3
  · obtain rfl : done = m := by omega
    have h4 := h3.obj
    rw [fillC_all] at h4
    (simp (maxSteps := 1000000) (dsimp := false) (disch := (first | omega | (simp only [okR]; done) | (simp only [sizeR] <;> omega) | fail)) only [↓preR, postR, ↓w_join, Nat.reduceEqDiff, Nat.reduceAdd, Nat.reduceSub, Nat.reduceMul, Int.reduceNeg, Nat.reduceLT, Int.reduceToNat, Nat.reduceLeDiff, Nat.sub_zero])
    refine cvb_all h4 (by simp [bytesOf]) ?_
    have h5 := node_close hj rfl h3.drop
    have e : ns.set (i - 1).toNat (some d) = ns := by
      apply List.ext_getElem?
      intro x
      rw [List.getElem?_set]
      split
      · rename_i hx; subst hx; rw [hj, if_pos (List.getElem?_eq_some_iff.1 hj).1]
      · rfl
    rw [e] at h5
    exact hr' s hd (by omega) (by omega) (by omega) h5
end
end Go.Proofs.YtmlceloabmkjmaaDoor
