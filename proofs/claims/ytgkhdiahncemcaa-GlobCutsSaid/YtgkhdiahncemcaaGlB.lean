/- Patterns: what the small functions answer. Conditions: as each theorem says. -/
import Derived.Test.YtgkhdiahncemcaaGlA
import Derived.Test.YtgkhdiahncemcaaC
namespace Go.Proofs.Ytgkhdiahncemcaa
open E Go.Lib
set_option linter.unusedVariables false
set_option linter.unusedSimpArgs false
set_option maxHeartbeats 1000000
set_option maxRecDepth 20000

section
variable {σ σ' : AS} {X : Ce} {R : List Ck} {k : Value → AS → Prop} {s : Str} {q : List Bool} {i e p : Nat} {c : UInt8} {v vq : Value}
theorem u8_eq {a b : UInt8} : ((a.toNat : Int) = (b.toNat : Int)) = (a = b) := by
  rw [eq_iff_iff]
  constructor
  · intro h
    exact UInt8.toNat_inj.1 (by omega)
  · rintro rfl; rfl
theorem isP_t (h : s[i]? = some c) (h2 : q[i]?.getD false = false) : isP s q i c = true := by simp [isP, h, h2]
theorem isP_f1 (h : s[i]? ≠ some c) : isP s q i c = false := by simp [isP, h]
theorem isP_f2 (h : q[i]?.getD false = true) : isP s q i c = false := by simp [isP, h]
/-- Element i of a list of bools. -/
theorem bool_at {l : List Bool} (h : RepL X v l) : ∃ a b o cap, v = .slice a l.length cap ∧ l.length ≤ cap ∧ cap ≤ maxLen ∧ ∀ i (hi : i < l.length), a = some ⟨b, o, none⟩ ∧ X b (o + i) = some (.bool l[i]) := by
  obtain ⟨a, b, o, cap, hv, hc, hm, hat⟩ := h.get
  refine ⟨a, b, o, cap, hv, hc, hm, fun i hi => ?_⟩
  obtain ⟨ha, cs, hr, _, hx⟩ := hat i hi
  obtain rfl : cs = [.bool l[i]] := hr
  have h0 : X b (o + i * 1 + 0) = some (.bool l[i]) := hx 0 _ rfl
  rw [Nat.mul_one, Nat.add_zero] at h0
  exact ⟨ha, h0⟩
theorem plain_c {n m : Int} (hn : n = (i : Nat)) (hm : m = (c.toNat : Nat)) (hq : RepL X vq q) (hs : s.length ≤ maxLen) (h : Hs σ X R) (hk : ∀ σ', Hs σ' X R → k (.bool (isP s q i c)) σ') :
    kCall Try.prog 30 [.agg [.string (bs s), vq].toArray, .int .i64 n, .int .u8 m] σ k := by
  subst hn; subst hm
  obtain ⟨a, b, o, cap, rfl, hcap, hmax, hat⟩ := bool_at hq
  refine f30 ?_
  have h1 := h.new (cs := [.string (bs s), .slice a q.length cap])
  by_cases h0 : i < s.length
  · have e0 : s[i]? = some s[i] := List.getElem?_eq_getElem h0
    have e1 : (s[i]?.getD 0) = s[i] := by rw [e0]; rfl
    by_cases h2 : s[i] = c
    · by_cases h3 : i < q.length
      · obtain ⟨rfl, hc⟩ := hat i h3
        have g := h1.ldx hc
        rw [new_c] at g
        (try simp (maxSteps := 1000000) (dsimp := false) (disch := (first | omega | (simp only [okR]; done) | (simp only [sizeR] <;> omega) | fail)) only [↓preR, postR, ↓w_join, Nat.reduceEqDiff, Nat.reduceAdd, Nat.reduceSub, Nat.reduceMul, Int.reduceNeg, Nat.reduceLT, Int.reduceToNat, Nat.reduceLeDiff, Nat.sub_zero, F30, e1, g, u8_eq, h2])
        have := hk _ h1.drop
        rw [show isP s q i c = !q[i] from by simp [isP, e0, h2, List.getElem?_eq_getElem h3]] at this
        exact this
      · (try simp (maxSteps := 1000000) (dsimp := false) (disch := (first | omega | (simp only [okR]; done) | (simp only [sizeR] <;> omega) | fail)) only [↓preR, postR, ↓w_join, Nat.reduceEqDiff, Nat.reduceAdd, Nat.reduceSub, Nat.reduceMul, Int.reduceNeg, Nat.reduceLT, Int.reduceToNat, Nat.reduceLeDiff, Nat.sub_zero, F30, e1, u8_eq, h2])
        have := hk _ h1.drop
        rw [isP_t (by rw [e0, h2]) (by rw [List.getElem?_eq_none (by omega)]; rfl)] at this
        exact this
    · (try simp (maxSteps := 1000000) (dsimp := false) (disch := (first | omega | (simp only [okR]; done) | (simp only [sizeR] <;> omega) | fail)) only [↓preR, postR, ↓w_join, Nat.reduceEqDiff, Nat.reduceAdd, Nat.reduceSub, Nat.reduceMul, Int.reduceNeg, Nat.reduceLT, Int.reduceToNat, Nat.reduceLeDiff, Nat.sub_zero, F30, e1, u8_eq, h2])
      have := hk _ h1.drop
      rw [isP_f1 (by rw [e0]; simpa using h2)] at this
      exact this
  · (try simp (maxSteps := 1000000) (dsimp := false) (disch := (first | omega | (simp only [okR]; done) | (simp only [sizeR] <;> omega) | fail)) only [↓preR, postR, ↓w_join, Nat.reduceEqDiff, Nat.reduceAdd, Nat.reduceSub, Nat.reduceMul, Int.reduceNeg, Nat.reduceLT, Int.reduceToNat, Nat.reduceLeDiff, Nat.sub_zero, F30])
    have := hk _ h1.drop
    rw [isP_f1 (by rw [List.getElem?_eq_none (by omega)]; simp)] at this
    exact this
theorem is_c {n m : Int} (hn : n = (i : Nat)) (hm : m = (c.toNat : Nat)) (hq : RepL X vq q) (hs : s.length ≤ maxLen) (h : Hs σ X R) (hk : k (.bool (isP s q i c)) σ) :
    kCall Try.prog 24 [.string (bs s), vq, .int .i64 n, .int .u8 m] σ k := by
  subst hn; subst hm
  obtain ⟨a, b, o, cap, rfl, hcap, hmax, hat⟩ := bool_at hq
  refine f24 ?_
  by_cases h0 : i < s.length
  · have e0 : s[i]? = some s[i] := List.getElem?_eq_getElem h0
    have e1 : (s[i]?.getD 0) = s[i] := by rw [e0]; rfl
    by_cases h2 : s[i] = c
    · by_cases h3 : i < q.length
      · obtain ⟨rfl, hc⟩ := hat i h3
        have g := h.ldx hc
        (try simp (maxSteps := 1000000) (dsimp := false) (disch := (first | omega | (simp only [okR]; done) | (simp only [sizeR] <;> omega) | fail)) only [↓preR, postR, ↓w_join, Nat.reduceEqDiff, Nat.reduceAdd, Nat.reduceSub, Nat.reduceMul, Int.reduceNeg, Nat.reduceLT, Int.reduceToNat, Nat.reduceLeDiff, Nat.sub_zero, F24, e1, g, u8_eq, h2])
        rw [show isP s q i c = !q[i] from by simp [isP, e0, h2, List.getElem?_eq_getElem h3]] at hk
        exact hk
      · (try simp (maxSteps := 1000000) (dsimp := false) (disch := (first | omega | (simp only [okR]; done) | (simp only [sizeR] <;> omega) | fail)) only [↓preR, postR, ↓w_join, Nat.reduceEqDiff, Nat.reduceAdd, Nat.reduceSub, Nat.reduceMul, Int.reduceNeg, Nat.reduceLT, Int.reduceToNat, Nat.reduceLeDiff, Nat.sub_zero, F24, e1, u8_eq, h2])
        rw [isP_t (by rw [e0, h2]) (by rw [List.getElem?_eq_none (by omega)]; rfl)] at hk
        exact hk
    · (try simp (maxSteps := 1000000) (dsimp := false) (disch := (first | omega | (simp only [okR]; done) | (simp only [sizeR] <;> omega) | fail)) only [↓preR, postR, ↓w_join, Nat.reduceEqDiff, Nat.reduceAdd, Nat.reduceSub, Nat.reduceMul, Int.reduceNeg, Nat.reduceLT, Int.reduceToNat, Nat.reduceLeDiff, Nat.sub_zero, F24, e1, u8_eq, h2])
      rw [isP_f1 (by rw [e0]; simpa using h2)] at hk
      exact hk
  · (try simp (maxSteps := 1000000) (dsimp := false) (disch := (first | omega | (simp only [okR]; done) | (simp only [sizeR] <;> omega) | fail)) only [↓preR, postR, ↓w_join, Nat.reduceEqDiff, Nat.reduceAdd, Nat.reduceSub, Nat.reduceMul, Int.reduceNeg, Nat.reduceLT, Int.reduceToNat, Nat.reduceLeDiff, Nat.sub_zero, F24])
    rw [isP_f1 (by rw [List.getElem?_eq_none (by omega)]; simp)] at hk
    exact hk
/-- A token's cells. -/
theorem tok_cells {t : Tok} {cs : List Value} (h : Rp.rp X t cs) : ∃ v, cs = [.int .i64 t.1, .int .u8 t.2.1.toNat, .bool t.2.2.1, v] ∧ inI64 t.1 ∧ RepL X v t.2.2.2 := by
  obtain ⟨x, _, rfl, ⟨rfl, h1⟩, y, _, rfl, rfl, z, _, rfl, rfl, u, rfl, h2⟩ := h
  exact ⟨u, rfl, h1, h2⟩
theorem tok_rp {t : Tok} (h1 : inI64 t.1) (h2 : RepL X v t.2.2.2) : Rp.rp X t [.int .i64 t.1, .int .u8 t.2.1.toNat, .bool t.2.2.1, v] :=
  ⟨[_], _, rfl, ⟨rfl, h1⟩, [_], _, rfl, rfl, [_], _, rfl, rfl, v, rfl, h2⟩
theorem rng_cells {r : UInt8 × UInt8} {cs : List Value} (h : Rp.rp X r cs) : cs = [.int .u8 r.1.toNat, .int .u8 r.2.toNat] := by
  obtain ⟨x, y, rfl, rfl, rfl⟩ := h
  rfl
/-- Element i of a list of tokens. -/
theorem tok_at {l : List Tok} (h : RepL X v l) : ∃ a b o cap, v = .slice a l.length cap ∧ l.length ≤ cap ∧ cap ≤ maxLen ∧ ∀ i (hi : i < l.length), a = some ⟨b, o, none⟩ ∧ ∃ u, inI64 l[i].1 ∧ RepL X u l[i].2.2.2 ∧
    X b (o + i * 4) = some (.int .i64 l[i].1) ∧ X b (o + i * 4 + 1) = some (.int .u8 l[i].2.1.toNat) ∧ X b (o + i * 4 + 2) = some (.bool l[i].2.2.1) ∧ X b (o + i * 4 + 3) = some u := by
  obtain ⟨a, b, o, cap, hv, hc, hm, hat⟩ := h.get
  refine ⟨a, b, o, cap, hv, hc, hm, fun i hi => ?_⟩
  obtain ⟨ha, cs, hr, _, hx⟩ := hat i hi
  obtain ⟨u, rfl, h1, h2⟩ := tok_cells hr
  exact ⟨ha, u, h1, h2, hx 0 _ rfl, hx 1 _ rfl, hx 2 _ rfl, hx 3 _ rfl⟩
theorem rng_at {l : List (UInt8 × UInt8)} (h : RepL X v l) : ∃ a b o cap, v = .slice a l.length cap ∧ l.length ≤ cap ∧ cap ≤ maxLen ∧ ∀ i (hi : i < l.length), a = some ⟨b, o, none⟩ ∧
    X b (o + i * 2) = some (.int .u8 l[i].1.toNat) ∧ X b (o + i * 2 + 1) = some (.int .u8 l[i].2.toNat) := by
  obtain ⟨a, b, o, cap, hv, hc, hm, hat⟩ := h.get
  refine ⟨a, b, o, cap, hv, hc, hm, fun i hi => ?_⟩
  obtain ⟨ha, cs, hr, _, hx⟩ := hat i hi
  obtain rfl := rng_cells hr
  exact ⟨ha, hx 0 _ rfl, hx 1 _ rfl⟩
theorem u8_le {a b : UInt8} : ((a.toNat : Int) ≤ (b.toNat : Int)) = (a.toNat ≤ b.toNat) := by rw [eq_iff_iff]; omega
/-- Ranges: is one there that has the byte? -/
theorem inrng_c {r : UInt8 × UInt8} (h : Hs σ X (Cel p [.int .u8 c.toNat] :: R)) (hk : ∀ σ', Hs σ' X (Cel p [.int .u8 c.toNat] :: R) → k (.bool (inR c r)) σ') :
    kCall Try.prog 35 [.agg [.int .u8 r.1.toNat, .int .u8 r.2.toNat].toArray, .pointer (some ⟨p, 0, none⟩)] σ k := by
  refine f35 ?_
  have h1 := h.new (cs := [.int .u8 r.1.toNat, .int .u8 r.2.toNat])
  by_cases h2 : r.1.toNat ≤ c.toNat
  · (try simp (maxSteps := 1000000) (dsimp := false) (disch := (first | omega | (simp only [okR]; done) | (simp only [sizeR] <;> omega) | fail)) only [↓preR, postR, ↓w_join, Nat.reduceEqDiff, Nat.reduceAdd, Nat.reduceSub, Nat.reduceMul, Int.reduceNeg, Nat.reduceLT, Int.reduceToNat, Nat.reduceLeDiff, Nat.sub_zero, F35, h1.obj, h1.obj1, u8_le, h2])
    have := hk _ h1.drop
    rw [show inR c r = decide (c.toNat ≤ r.2.toNat) from by simp [inR, h2]] at this
    exact this
  · (try simp (maxSteps := 1000000) (dsimp := false) (disch := (first | omega | (simp only [okR]; done) | (simp only [sizeR] <;> omega) | fail)) only [↓preR, postR, ↓w_join, Nat.reduceEqDiff, Nat.reduceAdd, Nat.reduceSub, Nat.reduceMul, Int.reduceNeg, Nat.reduceLT, Int.reduceToNat, Nat.reduceLeDiff, Nat.sub_zero, F35, h1.obj, h1.obj1, u8_le, h2])
    have := hk _ h1.drop
    rw [show inR c r = false from by simp [inR, h2]] at this
    exact this
end
end Go.Proofs.Ytgkhdiahncemcaa
