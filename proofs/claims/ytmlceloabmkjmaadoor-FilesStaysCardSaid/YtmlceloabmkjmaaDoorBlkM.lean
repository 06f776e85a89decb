/- The methods of blocks.Store as functions on lists of blocks. Conditions: as each theorem says. -/
import Derived.Test.YtmlceloabmkjmaaDoorBlk
namespace Go.Proofs.YtmlceloabmkjmaaDoor
open E
set_option linter.unusedVariables false
set_option linter.unusedSimpArgs false
set_option maxHeartbeats 4000000

/-- Is block b taken? -/
def isT (st : List Bk) (b : Int) : Bool := decide (1 ≤ b) && decide (b ≤ st.length) && (st[(b - 1).toNat]?.map (·.1)).getD false
theorem isT_iff (st : List Bk) (b : Int) : isT st b = true ↔ tkn st b := by
  unfold isT tkn
  constructor
  · intro h
    simp only [Bool.and_eq_true, decide_eq_true_eq] at h
    obtain ⟨⟨h1, h2⟩, h3⟩ := h
    have hi : (b - 1).toNat < st.length := by omega
    refine ⟨(b - 1).toNat, by omega, hi, ?_⟩
    rw [List.getElem?_eq_getElem hi] at h3
    exact h3
  · rintro ⟨i, rfl, hi, h⟩
    have e : ((i : Int) + 1 - 1).toNat = i := by omega
    simp only [e, Bool.and_eq_true, decide_eq_true_eq]
    refine ⟨⟨by omega, by omega⟩, ?_⟩
    simp [hi, h]
def takeM (st : List Bk) : Int × Int × List Bk := match st.findIdx? (fun b => !b.1) with | some i => (i + 1, 0, st.set i (true, zero64)) | none => (0, 20, st)
def giveM (st : List Bk) (b : Int) : Int × List Bk := if isT st b then (0, st.set (b - 1).toNat (false, (st[(b - 1).toNat]?.map (·.2)).getD [])) else (23, st)
def rdOk (a n : Int) : Bool := decide (0 ≤ a) && decide (a ≤ 64) && decide (0 ≤ n) && decide (n ≤ 64 - a)
def bytesM (st : List Bk) (b : Int) : List UInt8 := (st[(b - 1).toNat]?.map (·.2)).getD []
def readM (st : List Bk) (b a n : Int) : List UInt8 × Int := if isT st b then (if rdOk a n then (((bytesM st b).drop a.toNat).take n.toNat, 0) else ([], 1)) else ([], 23)
def writeM (st : List Bk) (b a : Int) (t : List UInt8) : Int × List Bk := if isT st b then (if rdOk a t.length then (0, st.set (b - 1).toNat (true, lays (bytesM st b) a.toNat t)) else (1, st)) else (23, st)
theorem takeM_ok (st : List Bk) (ho : Ok64 st) : (takeM st).2.2.length = st.length ∧ Ok64 (takeM st).2.2 := by
  unfold takeM
  split
  · exact ⟨by simp, ho.set _ _ (by decide)⟩
  · exact ⟨rfl, ho⟩
theorem giveM_ok (st : List Bk) (b : Int) (ho : Ok64 st) : (giveM st b).2.length = st.length ∧ Ok64 (giveM st b).2 := by
  unfold giveM
  split
  · rename_i h
    obtain ⟨i, rfl, hi, h⟩ := (isT_iff _ _).1 h
    have e : ((i : Int) + 1 - 1).toNat = i := by omega
    refine ⟨by simp, ho.set _ _ ?_⟩
    rw [e]; simpa [hi] using ho.get i hi
  · exact ⟨rfl, ho⟩
theorem writeM_ok (st : List Bk) (b a : Int) (t : List UInt8) (ho : Ok64 st) : (writeM st b a t).2.length = st.length ∧ Ok64 (writeM st b a t).2 := by
  unfold writeM
  split
  · rename_i h
    obtain ⟨i, rfl, hi, h⟩ := (isT_iff _ _).1 h
    have e : ((i : Int) + 1 - 1).toNat = i := by omega
    split
    · rename_i h2
      unfold rdOk at h2
      simp only [Bool.and_eq_true, decide_eq_true_eq] at h2
      refine ⟨by simp, ho.set _ _ ?_⟩
      have h64 := ho.get i hi
      have eb : bytesM st (i + 1) = st[i].2 := by unfold bytesM; rw [e]; simp [hi]
      rw [eb]
      show (lays _ _ _).length = 64
      rw [lays_len _ _ _ (by omega), h64]
    · exact ⟨rfl, ho⟩
  · exact ⟨rfl, ho⟩
theorem isT_at (st : List Bk) (i : Nat) (hi : i < st.length) : isT st (i + 1) = st[i].1 := by
  have e : ((i : Int) + 1 - 1).toNat = i := by omega
  have e1 : (1 : Int) ≤ i + 1 := by omega
  have e2 : (i : Int) + 1 ≤ st.length := by omega
  unfold isT
  rw [e, List.getElem?_eq_getElem hi]
  simp [e1, e2]
theorem bytesM_at (st : List Bk) (i : Nat) (hi : i < st.length) : bytesM st (i + 1) = st[i].2 := by
  have e : ((i : Int) + 1 - 1).toNat = i := by omega
  unfold bytesM
  rw [e, List.getElem?_eq_getElem hi]
  rfl
theorem write_at (st : List Bk) (i a : Nat) (t : List UInt8) (hi : i < st.length) (ht : st[i].1 = true) (h : a + t.length ≤ 64) : writeM st (i + 1) a t = (0, st.set i (true, lays st[i].2 a t)) := by
  have e : ((i : Int) + 1 - 1).toNat = i := by omega
  have : rdOk a t.length = true := by simp [rdOk]; omega
  simp only [writeM, isT_at st i hi, ht, if_true, this, bytesM_at st i hi, e, Int.toNat_natCast]
theorem read_at (st : List Bk) (i a n : Nat) (hi : i < st.length) (ht : st[i].1 = true) (h : a + n ≤ 64) : readM st (i + 1) a n = ((st[i].2.drop a).take n, 0) := by
  have : rdOk a n = true := by simp [rdOk]; omega
  simp only [readM, isT_at st i hi, ht, if_true, this, bytesM_at st i hi, Int.toNat_natCast]

section
variable {σ : AS} {k : Value → AS → Prop} {p s c : Nat} {x : List Value} {st : List Bk}
theorem Sto.to (h : Sto σ p s c x st) (j : Nat) {st' : List Bk} (h' : st'.length = st.length ∧ Ok64 st') : Sto (stoS (σ.up j) p s c x st') p s c x st' := (h.up j).set h'.1 h'.2
theorem take_c (h : Sto σ p s c x st) (hk : ∀ j, k (.tuple #[.int .i64 (takeM st).1, .int .i64 (takeM st).2.1]) (stoS (σ.up j) p s c x (takeM st).2.2)) :
    kCall Tryd.prog 63 [.pointer (some ⟨p, 0, none⟩)] σ k := by
  unfold takeM at hk
  cases hf : st.findIdx? (fun b => !b.1) with
  | none =>
    simp only [hf] at hk
    exact take_none h (by simp [idxOf, hf]) (fun j => by have := hk j; rwa [stoS_same (h.up j)] at this)
  | some i =>
    simp only [hf] at hk
    have hh := List.findIdx?_eq_some_iff_getElem.1 hf
    obtain ⟨hi, h1, _⟩ := hh
    exact take_some h i hi (by simp [idxOf, hf]) (by simpa using h1) hk
theorem give_c (h : Sto σ p s c x st) (b : Int) (hk : k (.int .i64 (giveM st b).1) (stoS σ p s c x (giveM st b).2)) :
    kCall Tryd.prog 62 [.pointer (some ⟨p, 0, none⟩), .int .i64 b] σ k := by
  unfold giveM at hk
  by_cases ht : isT st b = true
  · rw [if_pos ht] at hk
    obtain ⟨i, rfl, hi, h1⟩ := (isT_iff _ _).1 ht
    have e : ((i : Int) + 1 - 1).toNat = i := by omega
    rw [e, List.getElem?_eq_getElem hi] at hk
    exact give_some h i hi h1 hk
  · rw [if_neg ht] at hk
    rw [stoS_same h] at hk
    exact give_none h b (fun h => ht ((isT_iff _ _).2 h)) hk
theorem read_c (h : Sto σ p s c x st) (b a n : Int) (hk : k (.tuple #[.string (bs (readM st b a n).1), .int .i64 (readM st b a n).2]) σ) :
    kCall Tryd.prog 44 [.pointer (some ⟨p, 0, none⟩), .int .i64 b, .int .i64 a, .int .i64 n] σ k := by
  unfold readM at hk
  by_cases ht : isT st b = true
  · rw [if_pos ht] at hk
    obtain ⟨i, rfl, hi, h1⟩ := (isT_iff _ _).1 ht
    have e : ((i : Int) + 1 - 1).toNat = i := by omega
    have eb : bytesM st (i + 1) = st[i].2 := by unfold bytesM; rw [e]; simp [hi]
    by_cases hr : rdOk a n = true
    · rw [if_pos hr, eb] at hk
      unfold rdOk at hr
      simp only [Bool.and_eq_true, decide_eq_true_eq] at hr
      obtain ⟨a, rfl⟩ : ∃ m : Nat, a = m := ⟨a.toNat, by omega⟩
      obtain ⟨n, rfl⟩ : ∃ m : Nat, n = m := ⟨n.toNat, by omega⟩
      exact read_some h i hi h1 a n (by omega) hk
    · rw [if_neg hr] at hk
      unfold rdOk at hr
      simp only [Bool.and_eq_true, decide_eq_true_eq] at hr
      exact read_arg h i hi h1 a n (by omega) hk
  · rw [if_neg ht] at hk
    exact read_none h b a n (fun h => ht ((isT_iff _ _).2 h)) hk
theorem write_c (h : Sto σ p s c x st) (b a : Int) (t : List UInt8) (hk : k (.int .i64 (writeM st b a t).1) (stoS σ p s c x (writeM st b a t).2)) :
    kCall Tryd.prog 52 [.pointer (some ⟨p, 0, none⟩), .int .i64 b, .int .i64 a, .string (bs t)] σ k := by
  unfold writeM at hk
  by_cases ht : isT st b = true
  · rw [if_pos ht] at hk
    obtain ⟨i, rfl, hi, h1⟩ := (isT_iff _ _).1 ht
    have e : ((i : Int) + 1 - 1).toNat = i := by omega
    have eb : bytesM st (i + 1) = st[i].2 := by unfold bytesM; rw [e]; simp [hi]
    by_cases hr : rdOk a t.length = true
    · rw [if_pos hr, eb, e] at hk
      unfold rdOk at hr
      simp only [Bool.and_eq_true, decide_eq_true_eq] at hr
      obtain ⟨a, rfl⟩ : ∃ m : Nat, a = m := ⟨a.toNat, by omega⟩
      exact write_some h i hi h1 a t (by omega) hk
    · rw [if_neg hr, stoS_same h] at hk
      unfold rdOk at hr
      simp only [Bool.and_eq_true, decide_eq_true_eq] at hr
      exact write_arg h i hi h1 a t (by omega) hk
  · rw [if_neg ht, stoS_same h] at hk
    exact write_none h b a t (fun h => ht ((isT_iff _ _).2 h)) hk
/-- The same, the states behind names. -/
theorem stoS_chg (σ : AS) (p s c : Nat) (x : List Value) (st : List Bk) (j : Nat) : Chg [p, s] σ (stoS (σ.up j) p s c x st) := (((Chg.refl _ _).up j).put (.inl (by simp)) _).put (.inl (by simp)) _
theorem take_e {r e : Int} {st' : List Bk} (h : Sto σ p s c x st) (he : takeM st = (r, e, st')) (hk : ∀ σ', Sto σ' p s c x st' → Chg [p, s] σ σ' → k (.tuple #[.int .i64 r, .int .i64 e]) σ') :
    kCall Tryd.prog 63 [.pointer (some ⟨p, 0, none⟩)] σ k :=
  take_c h fun j => by
    have h2 := h.to j (takeM_ok _ h.ok)
    rw [he] at h2 ⊢
    exact hk _ h2 (stoS_chg _ _ _ _ _ _ _)
theorem give_e {e b : Int} {st' : List Bk} (h : Sto σ p s c x st) (he : giveM st b = (e, st')) (hk : ∀ σ', Sto σ' p s c x st' → Chg [p, s] σ σ' → k (.int .i64 e) σ') :
    kCall Tryd.prog 62 [.pointer (some ⟨p, 0, none⟩), .int .i64 b] σ k :=
  give_c h b (by
    have h2 := h.to 0 (giveM_ok _ b h.ok)
    have h3 := stoS_chg σ p s c x (giveM st b).2 0
    rw [up_zero] at h2 h3
    rw [he] at h2 h3 ⊢
    exact hk _ h2 h3)
theorem write_e {e b a : Int} {t : List UInt8} {st' : List Bk} (h : Sto σ p s c x st) (he : writeM st b a t = (e, st')) (hk : ∀ σ', Sto σ' p s c x st' → Chg [p, s] σ σ' → k (.int .i64 e) σ') :
    kCall Tryd.prog 52 [.pointer (some ⟨p, 0, none⟩), .int .i64 b, .int .i64 a, .string (bs t)] σ k :=
  write_c h b a t (by
    have h2 := h.to 0 (writeM_ok _ b a t h.ok)
    have h3 := stoS_chg σ p s c x (writeM st b a t).2 0
    rw [up_zero] at h2 h3
    rw [he] at h2 h3 ⊢
    exact hk _ h2 h3)
theorem read_e {e b a n : Int} {t : List UInt8} (h : Sto σ p s c x st) (he : readM st b a n = (t, e)) (hk : k (.tuple #[.string (bs t), .int .i64 e]) σ) :
    kCall Tryd.prog 44 [.pointer (some ⟨p, 0, none⟩), .int .i64 b, .int .i64 a, .int .i64 n] σ k :=
  read_c h b a n (by rw [he]; exact hk)
end
end Go.Proofs.YtmlceloabmkjmaaDoor
