/- Nodes: writing and cutting. Conditions: as each theorem says. -/
import Derived.Test.YtmlceloabmkjmaaDoorInE
namespace Go.Proofs.YtmlceloabmkjmaaDoor
open E Go.Lib
set_option linter.unusedVariables false
set_option linter.unusedSimpArgs false
set_option maxHeartbeats 1000000
set_option maxRecDepth 20000

abbrev Pl := List (Int × Int)
theorem pl_mem {l : Pl} {p b : Int} (h : l.lookup p = some b) : (p, b) ∈ l := by
  induction l with
  | nil => cases h
  | cons e l ih =>
    rw [List.lookup_cons] at h
    split at h
    · rename_i he
      obtain rfl : p = e.1 := by simpa using he
      injection h with h; subst h; simp
    · exact List.mem_cons_of_mem _ (ih h)
theorem pl_app (l : Pl) (p b q : Int) : (l ++ [(p, b)]).lookup q = (l.lookup q).or (if q = p then some b else none) := by
  rw [List.lookup_append]
  congr 1
  rw [List.lookup_cons]
  by_cases h : q = p
  · simp [h]
  · have : (q == p) = false := by simp [h]
    simp [this, h]
/-- Blocks have been taken for parts, and bytes been laid. -/
structure Grew (l : Pl) (st : List Bk) (l' : Pl) (st' : List Bk) : Prop where
  len : st'.length = st.length
  ok : Ok64 st'
  pok : PartsOk st' l'
  ext : ∀ p b, l.lookup p = some b → l'.lookup p = some b
  other : ∀ b : Int, 1 ≤ b → b ≤ st.length → b ∉ l'.map (·.2) → st'[(b - 1).toNat]? = st[(b - 1).toNat]?
  new : ∀ p b, (p, b) ∈ l' → (p, b) ∈ l ∨ st[(b - 1).toNat]?.map (·.1) = some false
  sub : ∀ e, e ∈ l → e ∈ l'
  cnt : free st' + l'.length = free st + l.length
theorem Grew.refl {l : Pl} {st : List Bk} (ho : Ok64 st) (hp : PartsOk st l) : Grew l st l st :=
  ⟨rfl, ho, hp, fun _ _ h => h, fun _ _ _ _ => rfl, fun _ _ h => .inl h, fun _ h => h, rfl⟩
theorem bytesM_get {st : List Bk} {b : Int} (h1 : 1 ≤ b) (h2 : b ≤ st.length) : bytesM st b = (st[(b - 1).toNat]'(by omega)).2 := by
  have hb : b = (((b - 1).toNat : Nat) : Int) + 1 := by omega
  conv => lhs; rw [hb]
  exact bytesM_at st _ (by omega)
theorem find_free {st : List Bk} {i : Nat} (h : st.findIdx? (fun b => !b.1) = some i) : ∃ hi : i < st.length, st[i].1 = false := by
  rw [List.findIdx?_eq_some_iff_getElem] at h
  obtain ⟨hi, h1, _⟩ := h
  exact ⟨hi, by simpa using h1⟩
theorem no_free {st : List Bk} (h : st.findIdx? (fun b => !b.1) = none) : free st = 0 := by
  rw [List.findIdx?_eq_none_iff] at h
  unfold free
  rw [List.countP_eq_zero]
  intro b hb
  have := h b hb
  simpa using this
section
variable {l l' : Pl} {st st' : List Bk}
theorem Grew.take (h : Grew l st l' st') {part : Int} {i : Nat} (hi : st'.findIdx? (fun b => !b.1) = some i) (hl : l'.lookup part = none) :
    Grew l st (l' ++ [(part, (i : Int) + 1)]) (st'.set i (true, zero64)) ∧ ∀ j, bAt (l' ++ [(part, (i : Int) + 1)]) (st'.set i (true, zero64)) j = bAt l' st' j := by
  obtain ⟨hlt, hf⟩ := find_free hi
  have hnot : ((i : Int) + 1) ∉ l'.map (·.2) := by
    intro hm
    obtain ⟨e, he, hx⟩ := List.mem_map.1 hm
    obtain ⟨_, _, h3⟩ := h.pok.inn e he
    have : (e.2 - 1).toNat = i := by omega
    rw [this, List.getElem?_eq_getElem hlt] at h3
    simp [hf] at h3
  have hset : ∀ b : Int, 1 ≤ b → b ≠ (i : Int) + 1 → (st'.set i (true, zero64))[(b - 1).toNat]? = st'[(b - 1).toNat]? := fun b hb1 hb => by
    rw [List.getElem?_set, if_neg (by omega)]
  refine ⟨⟨by rw [List.length_set]; exact h.len, h.ok.set _ _ (by simp [zero64]), ⟨fun e he => ?_, ?_⟩, fun p b hpb => ?_, fun b h1 h2 h3 => ?_, fun p b hm => ?_, fun e he => List.mem_append_left _ (h.sub e he), ?_⟩, fun j => ?_⟩
  · rw [List.length_set]
    rcases List.mem_append.1 he with he | he
    · obtain ⟨h1, h2, h3⟩ := h.pok.inn e he
      refine ⟨h1, h2, ?_⟩
      rw [hset e.2 h1 (fun hx => hnot (by rw [← hx]; exact List.mem_map.2 ⟨e, he, rfl⟩))]
      exact h3
    · simp at he
      subst he
      refine ⟨by show 1 ≤ (i : Int) + 1; omega, by show (i : Int) + 1 ≤ _; omega, ?_⟩
      show ((st'.set i (true, zero64))[((i : Int) + 1 - 1).toNat]?).map (·.1) = some true
      rw [show ((i : Int) + 1 - 1).toNat = i from by omega, List.getElem?_set, if_pos rfl, if_pos hlt]
      rfl
  · rw [List.map_append, List.nodup_append]
    refine ⟨h.pok.once, by simp, fun a ha b hb => ?_⟩
    simp at hb
    subst hb
    rintro rfl
    exact hnot ha
  · rw [pl_app, h.ext p b hpb]; rfl
  · rw [List.map_append, List.mem_append, not_or] at h3
    have hne : b ≠ (i : Int) + 1 := fun hx => h3.2 (by simp [hx])
    rw [hset b h1 hne]
    exact h.other b h1 h2 h3.1
  · rcases List.mem_append.1 hm with hm | hm
    · exact h.new p b hm
    · simp at hm
      obtain ⟨_, rfl⟩ := hm
      right
      have := h.other ((i : Int) + 1) (by omega) (by have := h.len; omega) hnot
      rw [← this, show ((i : Int) + 1 - 1).toNat = i from by omega, List.getElem?_eq_getElem hlt]
      simp [hf]
  · have := free_set st' i hlt (true, zero64)
    rw [if_pos hf, if_neg (by simp)] at this
    have h2 := h.cnt
    rw [List.length_append]
    simp only [List.length_cons, List.length_nil]
    omega
  · unfold bAt
    rw [pl_app]
    cases hx : l'.lookup ((j / 64 : Nat) : Int) with
    | some b =>
      simp only [Option.some_or]
      have hm := pl_mem hx
      obtain ⟨h1, h2, h3⟩ := h.pok.inn _ hm
      have hne : b ≠ (i : Int) + 1 := fun he => hnot (by rw [← he]; exact List.mem_map.2 ⟨_, hm, rfl⟩)
      have : bytesM (st'.set i (true, zero64)) b = bytesM st' b := by
        unfold bytesM
        rw [hset b h1 hne]
      rw [this]
    | none =>
      simp only [Option.none_or]
      by_cases hp : ((j / 64 : Nat) : Int) = part
      · rw [if_pos hp]
        show (bytesM (st'.set i (true, zero64)) ((i : Int) + 1))[j % 64]?.getD 0 = 0
        rw [bytesM_at _ i (by rw [List.length_set]; exact hlt)]
        have : (st'.set i (true, zero64))[i]'(by rw [List.length_set]; exact hlt) = (true, zero64) := by simp
        rw [this]
        have h64 : j % 64 < 64 := Nat.mod_lt _ (by decide)
        show (List.replicate 64 (0 : UInt8))[j % 64]?.getD 0 = 0
        rw [List.getElem?_replicate, if_pos h64]
        rfl
      · rw [if_neg hp]
theorem Grew.write (h : Grew l st l' st') {part b : Int} (hl : l'.lookup part = some b) (off : Nat) (t : List UInt8) (ht : off + t.length ≤ 64) :
    Grew l st l' (writeM st' b off t).2 ∧ ∀ j, bAt l' (writeM st' b off t).2 j = if ((j / 64 : Nat) : Int) = part ∧ off ≤ j % 64 ∧ j % 64 < off + t.length then t[j % 64 - off]?.getD 0 else bAt l' st' j := by
  have hm := pl_mem hl
  obtain ⟨h1, h2, h3⟩ := h.pok.inn _ hm
  have hi : (b - 1).toNat < st'.length := by simp only at h2; omega
  have hb : b = (((b - 1).toNat : Nat) : Int) + 1 := by simp only at h1; omega
  have ht' : st'[(b - 1).toNat].1 = true := by
    simp only at h3
    rw [List.getElem?_eq_getElem hi] at h3
    exact Option.some.inj h3
  have e : writeM st' b off t = (0, st'.set (b - 1).toNat (true, lays st'[(b - 1).toNat].2 off t)) := by
    conv => lhs; rw [hb]
    exact write_at st' _ off t hi ht' ht
  have h64 := h.ok _ (List.getElem_mem hi)
  have hll := lays_len st'[(b - 1).toNat].2 off t (by omega)
  rw [e]
  simp only
  have hset : ∀ c : Int, 1 ≤ c → c ≠ b → (st'.set (b - 1).toNat (true, lays st'[(b - 1).toNat].2 off t))[(c - 1).toNat]? = st'[(c - 1).toNat]? := fun c hc1 hc => by
    rw [List.getElem?_set, if_neg (by simp only at h1; omega)]
  have hsb : (st'.set (b - 1).toNat (true, lays st'[(b - 1).toNat].2 off t))[(b - 1).toNat]? = some (true, lays st'[(b - 1).toNat].2 off t) := by
    rw [List.getElem?_set, if_pos rfl, if_pos hi]
  refine ⟨⟨by rw [List.length_set]; exact h.len, h.ok.set _ _ (by rw [hll, h64]), ⟨fun a ha => ?_, h.pok.once⟩, h.ext, fun c g1 g2 g3 => ?_, h.new, h.sub, ?_⟩, fun j => ?_⟩
  · rw [List.length_set]
    obtain ⟨g1, g2, g3⟩ := h.pok.inn a ha
    refine ⟨g1, g2, ?_⟩
    by_cases hab : a.2 = b
    · rw [hab, hsb]; rfl
    · rw [hset a.2 g1 hab]; exact g3
  · rw [hset c g1 (fun hx => g3 (by rw [hx]; exact List.mem_map.2 ⟨_, hm, rfl⟩))]
    exact h.other c g1 g2 g3
  · have := free_set st' (b - 1).toNat hi (true, lays st'[(b - 1).toNat].2 off t)
    rw [ht'] at this
    have this : free (st'.set (b - 1).toNat (true, lays st'[(b - 1).toNat].2 off t)) + 0 = free st' + 0 := this
    have h2 := h.cnt
    omega
  · unfold bAt
    cases hx : l'.lookup ((j / 64 : Nat) : Int) with
    | none =>
      rw [if_neg]
      rintro ⟨hp, _⟩
      rw [hp, hl] at hx
      cases hx
    | some c =>
      simp only
      by_cases hp : ((j / 64 : Nat) : Int) = part
      · rw [hp, hl] at hx
        injection hx with hx
        subst hx
        have e1 : bytesM (st'.set (b - 1).toNat (true, lays st'[(b - 1).toNat].2 off t)) b = lays st'[(b - 1).toNat].2 off t := by
          unfold bytesM
          rw [hsb]; rfl
        have e2 : bytesM st' b = st'[(b - 1).toNat].2 := by
          unfold bytesM
          rw [List.getElem?_eq_getElem hi]; rfl
        rw [e1, e2]
        generalize st'[(b - 1).toNat].2 = v at h64 hll ⊢
        unfold lays
        by_cases h5 : j % 64 < off
        · rw [if_neg (by omega), List.append_assoc, List.getElem?_append_left (by simp; omega), List.getElem?_take, if_pos h5]
        · by_cases h6 : j % 64 < off + t.length
          · rw [if_pos ⟨hp, by omega, h6⟩, List.append_assoc, List.getElem?_append_right (by simp; omega), List.getElem?_append_left (by simp; omega)]
            have : (v.take off).length = off := by simp; omega
            rw [this]
          · rw [if_neg (by omega), List.getElem?_append_right (by simp; omega), List.getElem?_drop]
            have : (v.take off ++ t).length = off + t.length := by simp; omega
            rw [this, show off + t.length + (j % 64 - (off + t.length)) = j % 64 from by omega]
      · rw [if_neg (fun hh => hp hh.1)]
        have hne : c ≠ b := by
          rintro rfl
          have h6 := h.pok.once
          rw [List.Nodup, List.pairwise_map, List.pairwise_iff_getElem] at h6
          obtain ⟨u, hu, eu⟩ := List.getElem_of_mem hm
          obtain ⟨w, hw, ew⟩ := List.getElem_of_mem (pl_mem hx)
          rcases Nat.lt_trichotomy u w with hlt | rfl | hlt
          · have := h6 u w hu hw hlt; rw [eu, ew] at this; exact this rfl
          · rw [eu] at ew; injection ew with e1 _; exact hp e1.symm
          · have := h6 w u hw hu hlt; rw [eu, ew] at this; exact this rfl
        have hc1 := (h.pok.inn _ (pl_mem hx)).1
        have : bytesM (st'.set (b - 1).toNat (true, lays st'[(b - 1).toNat].2 off t)) c = bytesM st' c := by
          unfold bytesM
          rw [hset c hc1 hne]
        rw [this]
end
/-- A write, as far as it has come. -/
structure Wr (l : Pl) (st : List Bk) (a : Nat) (rest : List UInt8) (done : Nat) (l' : Pl) (st' : List Bk) : Prop where
  grew : Grew l st l' st'
  keys : ∀ p, (l'.lookup p).isSome = true ↔ (l.lookup p).isSome = true ∨ (0 < done ∧ ((a / 64 : Nat) : Int) ≤ p ∧ p ≤ (((a + done - 1) / 64 : Nat) : Int))
  byte : ∀ j, bAt l' st' j = if a ≤ j ∧ j < a + done then rest[j - a]?.getD 0 else bAt l st j
  fin : done ≤ rest.length
  al : done = 0 ∨ done = rest.length ∨ (a + done) % 64 = 0
section
variable {l l' : Pl} {st st' : List Bk} {a done many : Nat} {rest : List UInt8}
theorem Wr.zero (ho : Ok64 st) (hp : PartsOk st l) : Wr l st a rest 0 l st := ⟨Grew.refl ho hp, fun p => by simp, fun j => by rw [if_neg (by omega)], Nat.zero_le _, .inl rfl⟩
theorem Wr.step (h : Wr l st a rest done l' st') {l2 : Pl} {st2 : List Bk} {b : Int} (h2 : Grew l st l2 st2) (hb : ∀ j, bAt l2 st2 j = bAt l' st' j)
    (hk : ∀ p, (l2.lookup p).isSome = true ↔ (l'.lookup p).isSome = true ∨ p = (((a + done) / 64 : Nat) : Int)) (hl : l2.lookup (((a + done) / 64 : Nat) : Int) = some b) (hlt : done < rest.length)
    (hm : many = min (rest.length - done) (64 - (a + done) % 64)) : Wr l st a rest (done + many) l2 (writeM st2 b ((a + done) % 64 : Nat) ((rest.drop done).take many)).2 := by
  have hlen : ((rest.drop done).take many).length = many := by simp; omega
  obtain ⟨g1, g2⟩ := h2.write hl ((a + done) % 64) ((rest.drop done).take many) (by rw [hlen]; omega)
  refine ⟨g1, fun p => ?_, fun j => ?_, by omega, by omega⟩
  · rw [hk, h.keys]
    constructor
    · rintro ((h1 | ⟨h1, h3, h4⟩) | h1)
      · exact .inl h1
      · exact .inr ⟨by omega, h3, by omega⟩
      · exact .inr ⟨by omega, by omega, by omega⟩
    · rintro (h1 | ⟨h1, h3, h4⟩)
      · exact .inl (.inl h1)
      · by_cases hd : done = 0
        · right; subst hd; omega
        · have hal := h.al
          by_cases hp : p ≤ (((a + done - 1) / 64 : Nat) : Int)
          · exact .inl (.inr ⟨by omega, h3, hp⟩)
          · right; omega
  · rw [g2, hlen, hb, h.byte]
    by_cases h1 : a ≤ j ∧ j < a + done
    · rw [if_neg (by omega), if_pos h1, if_pos (by omega)]
    · by_cases h3 : a ≤ j ∧ j < a + (done + many)
      · rw [if_pos (by omega), if_pos h3, List.getElem?_take, if_pos (by omega), List.getElem?_drop]
        congr 2
        omega
      · rw [if_neg (by omega), if_neg h1, if_neg h3]
end
section
variable {σ σ' : AS} {X : Ce} {R : List Ck} {k : Value → AS → Prop} {t nb sp n : Nat} {st : List Bk} {ns : Nl} {d d' : Nd} {vals : List Value} {i : Int} {j : Nat}
theorem iwrite_c {at_ : Int} {data : List UInt8} (hat : at_ ≤ 9223372036854775807) (hdl : data.length ≤ 1000000000) (h : Hs σ X (TL t nb sp st ns R)) (hn : ns.length ≤ 1024) (hb : nodeAt ns i = none → k (.tuple #[.int .i64 0, .int .i64 23]) σ)
    (hok : ∀ d, nodeAt ns i = some d → PartsOk st d.parts ∧ 0 ≤ d.size ∧ d.size ≤ 4096)
    (ha : ∀ d, nodeAt ns i = some d → at_ < 0 → k (.tuple #[.int .i64 0, .int .i64 1]) σ)
    (hbig : ∀ d, nodeAt ns i = some d → 0 ≤ at_ → data ≠ [] → 4096 ≤ at_ → k (.tuple #[.int .i64 0, .int .i64 3]) σ)
    (hfull : ∀ d σ', nodeAt ns i = some d → 0 ≤ at_ → at_ < 4096 → data ≠ [] → d.parts.lookup ((at_.toNat / 64 : Nat) : Int) = none → free st = 0 → Hs σ' X (TL t nb sp st ns R) → k (.tuple #[.int .i64 0, .int .i64 20]) σ')
    (hk : ∀ d done l' st' σ', nodeAt ns i = some d → 0 ≤ at_ → (data = [] ∨ at_ < 4096) → Wr d.parts st at_.toNat (data.take (4096 - at_.toNat)) done l' st' →
      (done = (data.take (4096 - at_.toNat)).length ∨ (0 < done ∧ l'.lookup (((at_.toNat + done) / 64 : Nat) : Int) = none ∧ free st' = 0)) →
      Hs σ' X (TL t nb sp st' (ns.set (i - 1).toNat (some ⟨d.q, d.m, d.names, d.users, d.kind, if 0 < done then max d.size (at_ + done) else d.size, l'⟩)) R) → k (.tuple #[.int .i64 done, .int .i64 0]) σ') :
    kCall Tryd.prog 42 [pp t, .int .i64 i, .int .i64 at_, .string (bs data)] σ k := by
  refine f42 ?_
  (try simp (maxSteps := 1000000) (dsimp := false) (disch := (first | omega | (simp only [okR]; done) | (simp only [sizeR] <;> omega) | fail)) only [↓preR, postR, ↓w_join, Nat.reduceEqDiff, Nat.reduceAdd, Nat.reduceSub, Nat.reduceMul, Int.reduceNeg, Nat.reduceLT, Int.reduceToNat, Nat.reduceLeDiff, Nat.sub_zero, F42])
  refine find_c h hn (fun hd => ?_) (fun d hd => ?_)
  · (try simp (maxSteps := 1000000) (dsimp := false) (disch := (first | omega | (simp only [okR]; done) | (simp only [sizeR] <;> omega) | fail)) only [↓preR, postR, ↓w_join, Nat.reduceEqDiff, Nat.reduceAdd, Nat.reduceSub, Nat.reduceMul, Int.reduceNeg, Nat.reduceLT, Int.reduceToNat, Nat.reduceLeDiff, Nat.sub_zero]); exact hb hd
  obtain ⟨hi1, hi2, hj⟩ := nodeAt_some hd
  obtain ⟨hp, hs0, hs1⟩ := hok d hd
  have h1 := node_open h hj
  obtain ⟨h64, _⟩ := (h1.front 4 rfl).stoOk
  have hself : ns.set (i - 1).toNat (some d) = ns := by
    apply List.ext_getElem?
    intro x
    rw [List.getElem?_set]
    split
    · rename_i hx; subst hx; rw [hj, if_pos (List.getElem?_eq_some_iff.1 hj).1]
    · rfl
  by_cases a0 : at_ < 0
  · (try simp (maxSteps := 1000000) (dsimp := false) (disch := (first | omega | (simp only [okR]; done) | (simp only [sizeR] <;> omega) | fail)) only [↓preR, postR, ↓w_join, Nat.reduceEqDiff, Nat.reduceAdd, Nat.reduceSub, Nat.reduceMul, Int.reduceNeg, Nat.reduceLT, Int.reduceToNat, Nat.reduceLeDiff, Nat.sub_zero]); exact ha d hd a0
  by_cases hbg : data ≠ [] ∧ 4096 ≤ at_
  · obtain ⟨hb1, hb2⟩ := hbg
    (try simp (maxSteps := 1000000) (dsimp := false) (disch := (first | omega | (simp only [okR]; done) | (simp only [sizeR] <;> omega) | fail)) only [↓preR, postR, ↓w_join, Nat.reduceEqDiff, Nat.reduceAdd, Nat.reduceSub, Nat.reduceMul, Int.reduceNeg, Nat.reduceLT, Int.reduceToNat, Nat.reduceLeDiff, Nat.sub_zero, decF hb1])
    exact hbig d hd (by omega) hb1 hb2
  have hcase : data = [] ∨ at_ < 4096 := by
    by_cases h0 : data = []
    · exact .inl h0
    · right
      by_cases h4 : at_ < 4096
      · exact h4
      · exact absurd ⟨h0, by omega⟩ hbg
  have hk' := hk d
  have hfull' := hfull d
  obtain ⟨a, ea⟩ : ∃ a : Nat, at_ = a := ⟨at_.toNat, by omega⟩
  subst ea
  simp only [Int.toNat_natCast] at hk' hfull'
  generalize hrest : data.take (4096 - a) = rest at hk'
  have hrl : rest.length = min (4096 - a) data.length := by rw [← hrest, List.length_take]
  have hmax : (if (4096 : Int) - (a : Int) < 0 then (0 : Int) else (4096 : Int) - (a : Int)) = ((4096 - a : Nat) : Int) := by split <;> omega
  have hmin : (if ((4096 - a : Nat) : Int) < (data.length : Int) then ((4096 - a : Nat) : Int) else (data.length : Int)) = (rest.length : Int) := by split <;> omega
  have hsub : (data.drop 0).take (rest.length - 0) = rest := by
    rw [← hrest, List.drop_zero, List.length_take, Nat.sub_zero, List.take_eq_take_iff]
    omega
  have htk : data.take rest.length = rest := by
    rw [← hrest, List.length_take, List.take_eq_take_iff]
    omega
  have hrl64 : (rest.length : Int) ≤ 4096 := by omega
  have hrld : (rest.length : Int) ≤ data.length := by omega
  (try simp (maxSteps := 1000000) (dsimp := false) (disch := (first | omega | (simp only [okR]; done) | (simp only [sizeR] <;> omega) | fail)) only [↓preR, postR, ↓w_stop, Nat.reduceEqDiff, Nat.reduceAdd, Nat.reduceSub, Nat.reduceMul, Int.reduceNeg, Nat.reduceLT, Int.reduceToNat, Nat.reduceLeDiff, Nat.sub_zero])
  refine join_by fun J1 hJ1 => ?_
  have t1 : J1 [] σ := by
    refine hJ1 _ _ ?_
    clear hJ1
    (try simp (maxSteps := 1000000) (dsimp := false) (disch := (first | omega | (simp only [okR]; done) | (simp only [sizeR] <;> omega) | fail)) only [↓preR, postR, ↓w_stop, Nat.reduceEqDiff, Nat.reduceAdd, Nat.reduceSub, Nat.reduceMul, Int.reduceNeg, Nat.reduceLT, Int.reduceToNat, Nat.reduceLeDiff, Nat.sub_zero, hmax, hmin, htk])
    refine join_by fun J2 hJ2 => ?_
    have t2 : ∀ (done : Nat) l' st' s, Wr d.parts st a rest done l' st' → (done = rest.length ∨ (0 < done ∧ l'.lookup (((a + done) / 64 : Nat) : Int) = none ∧ free st' = 0)) →
        Hs s X (OPN ⟨d.q, d.m, d.names, d.users, d.kind, d.size, l'⟩ t nb sp ns.length (ns.map ndV) st' ((ns.map NdK ++ R).eraseIdx (i - 1).toNat)) → J2 [.int .i64 done] s := by
      intro done l' st' s hw hc hs
      refine hJ2 _ _ ?_
      clear hJ2
      have hdl := hw.fin
      have hcase' : 0 < done → a < 4096 := by
        intro h0
        rcases hcase with h1 | h1
        · subst h1; simp at hrl; omega
        · omega
      by_cases h0 : 0 < done
      · have := hcase' h0
        have hmx : (if d.size < (a : Int) + (done : Int) then (a : Int) + (done : Int) else d.size) = max d.size ((a : Int) + done) := by split <;> omega
        (try simp (maxSteps := 1000000) (dsimp := false) (disch := (first | omega | (simp only [okR]; done) | (simp only [sizeR] <;> omega) | fail)) only [↓preR, postR, ↓w_join, Nat.reduceEqDiff, Nat.reduceAdd, Nat.reduceSub, Nat.reduceMul, Int.reduceNeg, Nat.reduceLT, Int.reduceToNat, Nat.reduceLeDiff, Nat.sub_zero, hs.obj, hmx])
        have h3 := hk' done l' st' (s.put d.q (.cells (ndC ⟨d.q, d.m, d.names, d.users, d.kind, max d.size ((a : Int) + done), l'⟩))) hd (by omega) hcase hw hc
        rw [if_pos h0] at h3
        exact h3 (node_close (d' := ⟨d.q, d.m, d.names, d.users, d.kind, max d.size ((a : Int) + done), l'⟩) hj rfl hs.put)
      · have h0' : done = 0 := by omega
        subst h0'
        (try simp (maxSteps := 1000000) (dsimp := false) (disch := (first | omega | (simp only [okR]; done) | (simp only [sizeR] <;> omega) | fail)) only [↓preR, postR, ↓w_join, Nat.reduceEqDiff, Nat.reduceAdd, Nat.reduceSub, Nat.reduceMul, Int.reduceNeg, Nat.reduceLT, Int.reduceToNat, Nat.reduceLeDiff, Nat.sub_zero])
        have h3 := hk' 0 l' st' s hd (by omega) hcase hw hc
        rw [if_neg (by omega)] at h3
        exact h3 (node_close (d' := ⟨d.q, d.m, d.names, d.users, d.kind, d.size, l'⟩) hj rfl hs)
    clear hJ2
    refine loop_inv (fun n xs s => ∃ (done : Nat) (l' : Pl) (st' : List Bk), xs = [.int .i64 done] ∧ Wr d.parts st a rest done l' st' ∧ (done = 0 → d.parts = l' ∧ st = st') ∧ Hs s X (OPN ⟨d.q, d.m, d.names, d.users, d.kind, d.size, l'⟩ t nb sp ns.length (ns.map ndV) st' ((ns.map NdK ++ R).eraseIdx (i - 1).toNat)) ∧ n = rest.length - done) _ ⟨0, d.parts, st, rfl, Wr.zero h64 hp, fun _ => ⟨rfl, rfl⟩, h1, rfl⟩ ?_
    rintro n _ s again ⟨done, l', st', rfl, hw, hz, hs, rfl⟩ hag
    have hdl := hw.fin
    by_cases hlt : done < rest.length
    · have hlt' : (done : Int) < rest.length := by omega
      have ha4 : a < 4096 := by
        rcases hcase with h1 | h1
        · subst h1; simp at hrl; omega
        · omega
      obtain ⟨pos, hpos⟩ : ∃ pos, pos = a + done := ⟨_, rfl⟩
      obtain ⟨many, hmany⟩ : ∃ many, many = min (rest.length - done) (64 - (a + done) % 64) := ⟨_, rfl⟩
      have hq : ((a : Int) + (done : Int)) / 64 = (((a + done) / 64 : Nat) : Int) := by omega
      have hr2 : ((a : Int) + (done : Int)) % 64 = (((a + done) % 64 : Nat) : Int) := by omega
      have hmn : (if (64 : Int) - (((a + done) % 64 : Nat) : Int) < (rest.length : Int) - (done : Int) then (64 : Int) - (((a + done) % 64 : Nat) : Int) else (rest.length : Int) - (done : Int)) = ((many : Nat) : Int) := by split <;> omega
      have hm1 : 1 ≤ many := by omega
      have hdm : done + many ≤ rest.length := by omega
      have hdm' : (done : Int) + (many : Int) ≤ rest.length := by omega
      have hcut : (rest.drop done).take (done + many - done) = (rest.drop done).take many := by rw [show done + many - done = many from by omega]
      have go : ∀ (b : Int) l2 st2 s', Grew d.parts st l2 st2 → (∀ j, bAt l2 st2 j = bAt l' st' j) → (∀ p, (l2.lookup p).isSome = true ↔ (l'.lookup p).isSome = true ∨ p = (((a + done) / 64 : Nat) : Int)) → l2.lookup (((a + done) / 64 : Nat) : Int) = some b →
          Hs s' X (OPN ⟨d.q, d.m, d.names, d.users, d.kind, d.size, l2⟩ t nb sp ns.length (ns.map ndV) st2 ((ns.map NdK ++ R).eraseIdx (i - 1).toNat)) → ∀ K : Value → AS → Prop, (∀ v s'', again [.int .i64 ((done : Int) + (many : Int))] s'' → K v s'') →
          kCall Tryd.prog 52 [pp sp, .int .i64 b, .int .i64 (((a + done) % 64 : Nat) : Int), .string (bs ((rest.drop done).take many))] s' K := by
        intro b l2 st2 s' g1 g2 g3 g4 hs' K hK
        refine s_write b _ _ (OPN.sto hs') fun s'' hs'' => hK _ _ ?_
        refine hag _ _ _ ⟨done + many, l2, _, by simp, hw.step g1 g2 g3 g4 hlt hmany, fun h => by omega, un4 hs'', rfl⟩ (by omega)
      (simp (maxSteps := 1000000) (dsimp := false) (disch := (first | omega | (simp only [okR]; done) | (simp only [sizeR] <;> omega) | fail)) only [↓preR, postR, ↓w_join, Nat.reduceEqDiff, Nat.reduceAdd, Nat.reduceSub, Nat.reduceMul, Int.reduceNeg, Nat.reduceLT, Int.reduceToNat, Nat.reduceLeDiff, Nat.sub_zero, hq, hr2])
      refine block_c (d := ⟨d.q, d.m, d.names, d.users, d.kind, d.size, l'⟩) hs (fun b hl => ?_) (fun s2 hl hno hs2 => ?_) (fun x s2 hl hx hs2 => ?_)
      · (simp (maxSteps := 1000000) (dsimp := false) (disch := (first | omega | (simp only [okR]; done) | (simp only [sizeR] <;> omega) | fail)) only [↓preR, postR, ↓w_join, Nat.reduceEqDiff, Nat.reduceAdd, Nat.reduceSub, Nat.reduceMul, Int.reduceNeg, Nat.reduceLT, Int.reduceToNat, Nat.reduceLeDiff, Nat.sub_zero, hmn, hs.obj2, hcut])
        refine go b l' st' s hw.grew (fun _ => rfl) (fun p => ⟨fun h => .inl h, fun h => h.elim id (fun e => by rw [e]; have hl : l'.lookup (((a + done) / 64 : Nat) : Int) = some b := hl; rw [hl]; rfl)⟩) hl hs _ (fun v s'' h => ?_)
        (try simp (maxSteps := 1000000) (dsimp := false) (disch := (first | omega | (simp only [okR]; done) | (simp only [sizeR] <;> omega) | fail)) only [↓preR, postR, ↓w_join, Nat.reduceEqDiff, Nat.reduceAdd, Nat.reduceSub, Nat.reduceMul, Int.reduceNeg, Nat.reduceLT, Int.reduceToNat, Nat.reduceLeDiff, Nat.sub_zero])
        exact h
      · by_cases hd0 : done = 0
        · subst hd0
          have hne : data ≠ [] := by rintro rfl; rw [List.length_nil] at hrl; omega
          obtain ⟨rfl, rfl⟩ := hz rfl
          (simp (maxSteps := 1000000) (dsimp := false) (disch := (first | omega | (simp only [okR]; done) | (simp only [sizeR] <;> omega) | fail)) only [↓preR, postR, ↓w_join, Nat.reduceEqDiff, Nat.reduceAdd, Nat.reduceSub, Nat.reduceMul, Int.reduceNeg, Nat.reduceLT, Int.reduceToNat, Nat.reduceLeDiff, Nat.sub_zero])
          have h5 := node_close hj rfl hs2
          have h5 : Hs s2 X (TL t nb sp st (ns.set (i - 1).toNat (some d)) R) := h5
          rw [hself] at h5
          exact hfull' s2 hd (by omega) (by omega) hne hl (no_free hno) h5
        · (try simp (maxSteps := 1000000) (dsimp := false) (disch := (first | omega | (simp only [okR]; done) | (simp only [sizeR] <;> omega) | fail)) only [↓preR, postR, ↓w_join, Nat.reduceEqDiff, Nat.reduceAdd, Nat.reduceSub, Nat.reduceMul, Int.reduceNeg, Nat.reduceLT, Int.reduceToNat, Nat.reduceLeDiff, Nat.sub_zero])
          exact t2 done l' st' s2 hw (.inr ⟨by omega, hl, no_free hno⟩) hs2
      · obtain ⟨g1, g2⟩ := hw.grew.take (part := (((a + done) / 64 : Nat) : Int)) hx hl
        (simp (maxSteps := 1000000) (dsimp := false) (disch := (first | omega | (simp only [okR]; done) | (simp only [sizeR] <;> omega) | fail)) only [↓preR, postR, ↓w_join, Nat.reduceEqDiff, Nat.reduceAdd, Nat.reduceSub, Nat.reduceMul, Int.reduceNeg, Nat.reduceLT, Int.reduceToNat, Nat.reduceLeDiff, Nat.sub_zero, hmn, hs2.obj2, hcut])
        refine go ((x : Int) + 1) _ _ s2 g1 g2 (fun p => ?_) ?_ hs2 _ (fun v s'' h => ?_)
        · rw [pl_app]
          cases l'.lookup p <;> by_cases hp : p = (((a + done) / 64 : Nat) : Int) <;> simp [hp]
        · have hl : l'.lookup (((a + done) / 64 : Nat) : Int) = none := hl
          rw [pl_app, hl]
          simp
        · (try simp (maxSteps := 1000000) (dsimp := false) (disch := (first | omega | (simp only [okR]; done) | (simp only [sizeR] <;> omega) | fail)) only [↓preR, postR, ↓w_join, Nat.reduceEqDiff, Nat.reduceAdd, Nat.reduceSub, Nat.reduceMul, Int.reduceNeg, Nat.reduceLT, Int.reduceToNat, Nat.reduceLeDiff, Nat.sub_zero])
          exact h
    · obtain rfl : done = rest.length := by omega
      (try simp (maxSteps := 1000000) (dsimp := false) (disch := (first | omega | (simp only [okR]; done) | (simp only [sizeR] <;> omega) | fail)) only [↓preR, postR, ↓w_join, Nat.reduceEqDiff, Nat.reduceAdd, Nat.reduceSub, Nat.reduceMul, Int.reduceNeg, Nat.reduceLT, Int.reduceToNat, Nat.reduceLeDiff, Nat.sub_zero])
      exact t2 _ l' st' s hw (.inl rfl) hs
  clear hJ1
  rcases hcase with h0 | h4
  · subst h0
    (try simp (maxSteps := 1000000) (dsimp := false) (disch := (first | omega | (simp only [okR]; done) | (simp only [sizeR] <;> omega) | fail)) only [↓preR, postR, ↓w_join, Nat.reduceEqDiff, Nat.reduceAdd, Nat.reduceSub, Nat.reduceMul, Int.reduceNeg, Nat.reduceLT, Int.reduceToNat, Nat.reduceLeDiff, Nat.sub_zero])
    exact t1
  · by_cases h0 : data = []
    · subst h0
      (try simp (maxSteps := 1000000) (dsimp := false) (disch := (first | omega | (simp only [okR]; done) | (simp only [sizeR] <;> omega) | fail)) only [↓preR, postR, ↓w_join, Nat.reduceEqDiff, Nat.reduceAdd, Nat.reduceSub, Nat.reduceMul, Int.reduceNeg, Nat.reduceLT, Int.reduceToNat, Nat.reduceLeDiff, Nat.sub_zero])
      exact t1
    · (try simp (maxSteps := 1000000) (dsimp := false) (disch := (first | omega | (simp only [okR]; done) | (simp only [sizeR] <;> omega) | fail)) only [↓preR, postR, ↓w_join, Nat.reduceEqDiff, Nat.reduceAdd, Nat.reduceSub, Nat.reduceMul, Int.reduceNeg, Nat.reduceLT, Int.reduceToNat, Nat.reduceLeDiff, Nat.sub_zero, decF h0])
      exact t1
def cutFr (size : Nat) : Int := (((size + 63) / 64 : Nat) : Int)
/-- The store behind a cut. -/
def cutSt (l : Pl) (st : List Bk) (size : Nat) : List Bk :=
  if 0 < size % 64 then (match (l.filter fun p => decide (p.1 < cutFr size)).lookup ((size / 64 : Nat) : Int) with
    | some b => (writeM (gv st ((l.filter fun p => decide (cutFr size ≤ p.1)).map (·.2))) b (size % 64 : Nat) (List.replicate (64 - size % 64) 0)).2
    | none => gv st ((l.filter fun p => decide (cutFr size ≤ p.1)).map (·.2)))
  else gv st ((l.filter fun p => decide (cutFr size ≤ p.1)).map (·.2))
theorem icut_c {size : Int} (h : Hs σ X (TL t nb sp st ns R)) (hn : ns.length ≤ 1024) (hsz : -9223372036854775808 ≤ size) (hb : nodeAt ns i = none → k (.int .i64 23) σ)
    (hok : ∀ d, nodeAt ns i = some d → PartsOk st d.parts)
    (ha : ∀ d, nodeAt ns i = some d → size < 0 → k (.int .i64 1) σ) (hbig : ∀ d, nodeAt ns i = some d → 4096 < size → k (.int .i64 3) σ)
    (hk : ∀ d σ', nodeAt ns i = some d → 0 ≤ size → size ≤ 4096 → Hs σ' X (TL t nb sp (cutSt d.parts st size.toNat) (ns.set (i - 1).toNat (some ⟨d.q, d.m, d.names, d.users, d.kind, size, d.parts.filter fun p => decide (p.1 < cutFr size.toNat)⟩)) R) → k (.int .i64 0) σ') :
    kCall Tryd.prog 40 [pp t, .int .i64 i, .int .i64 size] σ k := by
  refine f40 ?_
  (try simp (maxSteps := 1000000) (dsimp := false) (disch := (first | omega | (simp only [okR]; done) | (simp only [sizeR] <;> omega) | fail)) only [↓preR, postR, ↓w_join, Nat.reduceEqDiff, Nat.reduceAdd, Nat.reduceSub, Nat.reduceMul, Int.reduceNeg, Nat.reduceLT, Int.reduceToNat, Nat.reduceLeDiff, Nat.sub_zero, F40])
  refine find_c h hn (fun hd => ?_) (fun d hd => ?_)
  · (try simp (maxSteps := 1000000) (dsimp := false) (disch := (first | omega | (simp only [okR]; done) | (simp only [sizeR] <;> omega) | fail)) only [↓preR, postR, ↓w_join, Nat.reduceEqDiff, Nat.reduceAdd, Nat.reduceSub, Nat.reduceMul, Int.reduceNeg, Nat.reduceLT, Int.reduceToNat, Nat.reduceLeDiff, Nat.sub_zero]); exact hb hd
  obtain ⟨hi1, hi2, hj⟩ := nodeAt_some hd
  have hp := hok d hd
  have h1 := node_open h hj
  by_cases a0 : size < 0
  · (try simp (maxSteps := 1000000) (dsimp := false) (disch := (first | omega | (simp only [okR]; done) | (simp only [sizeR] <;> omega) | fail)) only [↓preR, postR, ↓w_join, Nat.reduceEqDiff, Nat.reduceAdd, Nat.reduceSub, Nat.reduceMul, Int.reduceNeg, Nat.reduceLT, Int.reduceToNat, Nat.reduceLeDiff, Nat.sub_zero]); exact ha d hd a0
  by_cases ab : 4096 < size
  · (try simp (maxSteps := 1000000) (dsimp := false) (disch := (first | omega | (simp only [okR]; done) | (simp only [sizeR] <;> omega) | fail)) only [↓preR, postR, ↓w_join, Nat.reduceEqDiff, Nat.reduceAdd, Nat.reduceSub, Nat.reduceMul, Int.reduceNeg, Nat.reduceLT, Int.reduceToNat, Nat.reduceLeDiff, Nat.sub_zero]); exact hbig d hd ab
  have hk' := hk d
  obtain ⟨z, ez⟩ : ∃ z : Nat, size = z := ⟨size.toNat, by omega⟩
  subst ez
  simp only [Int.toNat_natCast] at hk'
  have hz : z ≤ 4096 := by omega
  have hfr : ((z : Int) + 64 - 1) / 64 = cutFr z := by unfold cutFr; omega
  have hrm : (z : Int) % 64 = ((z % 64 : Nat) : Int) := by omega
  have hq : (z : Int) / 64 = ((z / 64 : Nat) : Int) := by omega
  (simp (maxSteps := 1000000) (dsimp := false) (disch := (first | omega | (simp only [okR]; done) | (simp only [sizeR] <;> omega) | fail)) only [↓preR, postR, ↓w_join, Nat.reduceEqDiff, Nat.reduceAdd, Nat.reduceSub, Nat.reduceMul, Int.reduceNeg, Nat.reduceLT, Int.reduceToNat, Nat.reduceLeDiff, Nat.sub_zero, hfr])
  refine drop_c h1 hp fun s2 h2 => ?_
  unfold cutSt at hk'
  generalize hfl : (d.parts.filter fun p => decide (p.1 < cutFr z)) = l2 at h2 hk'
  generalize gv st ((d.parts.filter fun p => decide (cutFr z ≤ p.1)).map (·.2)) = st2 at h2 hk'
  have fin : ∀ s st3, Hs s X (OPN ⟨d.q, d.m, d.names, d.users, d.kind, d.size, l2⟩ t nb sp ns.length (ns.map ndV) st3 ((ns.map NdK ++ R).eraseIdx (i - 1).toNat)) → Hs (s.put d.q (.cells (ndC ⟨d.q, d.m, d.names, d.users, d.kind, z, l2⟩))) X (TL t nb sp st3 (ns.set (i - 1).toNat (some ⟨d.q, d.m, d.names, d.users, d.kind, z, l2⟩)) R) := fun s st3 hs => node_close (d' := ⟨d.q, d.m, d.names, d.users, d.kind, z, l2⟩) hj rfl hs.put
  by_cases h0 : 0 < z % 64
  · rw [if_pos h0] at hk'
    have h0' : (0 : Int) < ((z % 64 : Nat) : Int) := by omega
    (simp (maxSteps := 1000000) (dsimp := false) (disch := (first | omega | (simp only [okR]; done) | (simp only [sizeR] <;> omega) | fail)) only [↓preR, postR, ↓w_join, Nat.reduceEqDiff, Nat.reduceAdd, Nat.reduceSub, Nat.reduceMul, Int.reduceNeg, Nat.reduceLT, Int.reduceToNat, Nat.reduceLeDiff, Nat.sub_zero, hrm, hq, h2.obj])
    refine plk (d := ⟨d.q, d.m, d.names, d.users, d.kind, d.size, l2⟩) _ h2 (fun b hl => ?_) (fun hl => ?_)
    · have hl : l2.lookup ((z / 64 : Nat) : Int) = some b := hl
      rw [hl] at hk'
      have h3 := h2.junk (.cells (List.replicate (64 - z % 64) (Value.int .u8 0)))
      have hto : (64 : Int) - ((z % 64 : Nat) : Int) = ((64 - z % 64 : Nat) : Int) := by omega
      have hfl2 : (List.replicate (64 - z % 64) [Value.int .u8 0]).flatten = (List.replicate (64 - z % 64) (0 : UInt8)).map fun b => Value.int .u8 b.toNat := by
        generalize 64 - z % 64 = m
        induction m with
        | zero => rfl
        | succ m ih => rw [List.replicate_succ, List.replicate_succ, List.flatten_cons, List.map_cons, ih]; rfl
      have hrep : List.replicate (64 - z % 64) (Value.int .u8 0) = (List.replicate (64 - z % 64) (0 : UInt8)).map fun b => Value.int .u8 b.toNat := by
        rw [List.map_replicate]; rfl
      rw [hrep] at h3
      (simp (maxSteps := 1000000) (dsimp := false) (disch := (first | omega | (simp only [okR]; done) | (simp only [sizeR] <;> omega) | fail)) only [↓preR, postR, ↓w_join, Nat.reduceEqDiff, Nat.reduceAdd, Nat.reduceSub, Nat.reduceMul, Int.reduceNeg, Nat.reduceLT, Int.reduceToNat, Nat.reduceLeDiff, Nat.sub_zero, h2.obj2, hto, hfl2, h3.obj2])
      refine cvb_all new_eq_ (by simp) ?_
      (simp (maxSteps := 1000000) (dsimp := false) (disch := (first | omega | (simp only [okR]; done) | (simp only [sizeR] <;> omega) | fail)) only [↓preR, postR, ↓w_join, Nat.reduceEqDiff, Nat.reduceAdd, Nat.reduceSub, Nat.reduceMul, Int.reduceNeg, Nat.reduceLT, Int.reduceToNat, Nat.reduceLeDiff, Nat.sub_zero, hto, hfl2, h3.obj2])
      refine s_write b _ _ (OPN.sto h3) fun s4 h4 => ?_
      have h5 := un4 h4
      (try simp (maxSteps := 1000000) (dsimp := false) (disch := (first | omega | (simp only [okR]; done) | (simp only [sizeR] <;> omega) | fail)) only [↓preR, postR, ↓w_join, Nat.reduceEqDiff, Nat.reduceAdd, Nat.reduceSub, Nat.reduceMul, Int.reduceNeg, Nat.reduceLT, Int.reduceToNat, Nat.reduceLeDiff, Nat.sub_zero, h5.obj])
      exact hk' _ hd (by omega) (by omega) (fin _ _ h5)
    · have hl : l2.lookup ((z / 64 : Nat) : Int) = none := hl
      rw [hl] at hk'
      (try simp (maxSteps := 1000000) (dsimp := false) (disch := (first | omega | (simp only [okR]; done) | (simp only [sizeR] <;> omega) | fail)) only [↓preR, postR, ↓w_join, Nat.reduceEqDiff, Nat.reduceAdd, Nat.reduceSub, Nat.reduceMul, Int.reduceNeg, Nat.reduceLT, Int.reduceToNat, Nat.reduceLeDiff, Nat.sub_zero, h2.obj])
      exact hk' _ hd (by omega) (by omega) (fin _ _ h2)
  · rw [if_neg h0] at hk'
    have h0' : ¬ (0 : Int) < ((z % 64 : Nat) : Int) := by omega
    (try simp (maxSteps := 1000000) (dsimp := false) (disch := (first | omega | (simp only [okR]; done) | (simp only [sizeR] <;> omega) | fail)) only [↓preR, postR, ↓w_join, Nat.reduceEqDiff, Nat.reduceAdd, Nat.reduceSub, Nat.reduceMul, Int.reduceNeg, Nat.reduceLT, Int.reduceToNat, Nat.reduceLeDiff, Nat.sub_zero, hrm, hq, h2.obj])
    exact hk' _ hd (by omega) (by omega) (fin _ _ h2)
end
end Go.Proofs.YtmlceloabmkjmaaDoor
