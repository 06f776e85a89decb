/- append and copy in the calculus. Conditions: as each theorem says. -/
import Derived.Test.YtfiknjogkpbgdaaEB
import Derived.Maps.AppendAt
namespace Go.Proofs.Ytfiknjogkpbgdaa.E
open Go.RowKit

/-- v is a slice of the call's own, from block B on, whose n elements (sz cells each) are the cells xs. -/
def Own (w : World) (B : Nat) (e : TypeId) (sz : Nat) (v : Value) (n : Nat) (xs : List Value) : Prop := w.ownsRow B e sz v n xs
def ownL (v : Value) : List Nat := match v.ownBlock with | some g => [g] | none => []
theorem ownL_some (a : Addr) (n c : Nat) : ownL (.slice (some a) n c) = [a.block] := rfl
theorem ownL_none (n c : Nat) : ownL (.slice none n c) = [] := rfl
theorem mem_ownL {v : Value} {g : Nat} : g ∈ ownL v ↔ v.ownBlock = some g := by
  unfold ownL
  cases h : v.ownBlock with
  | none => simp
  | some k => simp [eq_comm]

section
variable {w w' : World} {B n sz : Nat} {e : TypeId} {v : Value} {xs : List Value} {S : List Nat}
theorem Own.nil (w : World) (B : Nat) (e : TypeId) (sz : Nat) : Own w B e sz (.slice none 0 0) 0 [] := World.ownsRow_nil w B e sz
theorem Own.len (h : Own w B e sz v n xs) : xs.length = n * sz := h.1
theorem Own.lt (h : Own w B e sz v n xs) {g : Nat} (hg : g ∈ ownL v) : B ≤ g ∧ g < size w := World.ownsRow.lt h g (mem_ownL.1 hg)
theorem Own.keep (h : Own w B e sz v n xs) (hk : Keep S w w') (hn : ∀ g, g ∈ ownL v → g ∉ S) : Own w' B e sz v n xs := by
  obtain ⟨h1, h2⟩ := h
  refine ⟨h1, ?_⟩
  rcases h2 with h2 | ⟨g, cap, cur, rfl, hb, hh, r⟩
  · exact .inl h2
  · have hlt : g < size w := (Array.getElem?_eq_some_iff.1 hh).1
    exact .inr ⟨g, cap, cur, rfl, hb, (hk.heap g hlt (hn g (by simp [ownL_some]))).trans hh, r⟩
theorem Own.keep0 (h : Own w B e sz v n xs) (hk : Keep [] w w') : Own w' B e sz v n xs := h.keep hk (fun _ _ => by simp)
theorem Own.new_ (h : Own w B e sz v n xs) (l : List Value) (t : TypeId) : Own (new w l t) B e sz v n xs := h.keep0 (Keep.new_ (Keep.refl _ _) l t)
theorem Own.put_ (h : Own w B e sz v n xs) {g : Nat} (hg : g ∉ ownL v) (l : List Value) : Own (put w g l) B e sz v n xs :=
  h.keep (S := [g]) (Keep.put_ (Keep.refl _ _) (by simp) l) (fun k hk hm => by
    simp only [List.mem_singleton] at hm
    subst hm
    exact hg hk)
theorem Own.drewN (h : Own w B e sz v n xs) (k : Nat) : Own (w.drewN k) B e sz v n xs := h
theorem Own.form (h : Own w B e sz v n xs) : (v = .slice none 0 0 ∧ n = 0 ∧ xs = []) ∨ ∃ g c, v = .slice (some ⟨g, 0, none⟩) n c ∧ B ≤ g ∧ g < size w ∧ n ≤ c ∧ c ≤ maxLen := by
  obtain ⟨h1, h2⟩ := h
  rcases h2 with ⟨h2, h3⟩ | ⟨g, cap, cur, rfl, hb, hh, h4, h5, _⟩
  · subst h3
    exact .inl ⟨h2, rfl, List.eq_nil_of_length_eq_zero (by simpa using h1)⟩
  · exact .inr ⟨g, cap, rfl, hb, (Array.getElem?_eq_some_iff.1 hh).1, h4, h5⟩
theorem Own.val (h : Own w B e sz v n xs) : ∃ a c, v = .slice a n c := by
  rcases h.form with ⟨h, hn, _⟩ | ⟨g, c, h, _⟩
  · exact ⟨none, 0, by rw [h, hn]⟩
  · exact ⟨_, c, h⟩
theorem Own.cel {g c : Nat} (h : Own w B e sz (.slice (some ⟨g, 0, none⟩) n c) n xs) (j : Nat) (hj : j < xs.length) : w.cell? ⟨g, j, none⟩ = xs[j]? :=
  World.ownsRow.cellAt h j (by rw [← h.1]; exact hj)
/-- One row as a block known whole: what it holds, and its spare room. -/
theorem Own.blk {g c : Nat} (h : Own w B e sz (.slice (some ⟨g, 0, none⟩) n c) n xs) : ∃ sp, E.blk w g = some (xs ++ sp) := by
  obtain ⟨h1, h2⟩ := h
  rcases h2 with ⟨h2, h3⟩ | ⟨g', cap, cur, hv, hb, hh, h4, h5, h6, h7⟩
  · cases h2
  · injection hv with hv
    injection hv with hv
    injection hv with hv
    subst hv
    refine ⟨cur.toList.drop (n * sz), ?_⟩
    have : cur.toList = xs ++ cur.toList.drop (n * sz) := by rw [← h7, List.take_append_drop]
    rw [← this]
    exact blk_of (t := e) (by simpa using hh)
theorem Own.lit (w : World) (l : List Value) (t : TypeId) (k : Nat) (hl : l.length = k * sz) (hk : k ≤ maxLen) (hB : B ≤ size w) : Own (new w l t) B t sz (.slice (some ⟨size w, 0, none⟩) k k) k l := by
  refine ⟨hl, .inr ⟨size w, k, l.toArray, rfl, hB, heap_alloc_new w _, Nat.le_refl _, hk, by simp [hl], ?_⟩⟩
  rw [← hl]; simp
theorem Own.mono {B' : Nat} (h : Own w B e sz v n xs) (hb : B' ≤ B) : Own w B' e sz v n xs := by
  obtain ⟨h1, h2⟩ := h
  refine ⟨h1, ?_⟩
  rcases h2 with h2 | ⟨g, cap, cur, h3, h4, r⟩
  · exact .inl h2
  · exact .inr ⟨g, cap, cur, h3, Nat.le_trans hb h4, r⟩
end

/-- An element type's size in cells, in bytes. -/
def infB (P : Program) (e : TypeId) (sz bytes : Nat) : Bool :=
  match P.info? e with
  | some i => (match i.zero with | some z => i.size == sz && i.bytes == bytes && z.cells.size == sz && decide (0 < sz) | none => false)
  | none => false
theorem infB_ok {P : Program} {e : TypeId} {sz bytes : Nat} (h : infB P e sz bytes = true) : ∃ i z, P.info? e = some i ∧ i.zero = some z ∧ i.size = sz ∧ i.bytes = bytes ∧ z.cells.size = sz ∧ 0 < sz := by
  unfold infB at h
  split at h
  · rename_i i hi
    split at h
    · rename_i z hz
      simp only [Bool.and_eq_true, beq_iff_eq, decide_eq_true_eq] at h
      exact ⟨i, z, hi, hz, h.1.1.1, h.1.1.2, h.1.2, h.2⟩
    · cases h
  · cases h

section
variable {P : Program} {w : World} {d : Option Nat} {r : List St} {Q : Post} {ρ : Env}
theorem keep_of_grown {w w' : World} {v : Value} (h : w.grownBy w' v.ownBlock) : Keep (ownL v) w w' :=
  ⟨h.os, h.tape, h.output, h.size, fun k hk hn => h.block k hk (fun e => hn (mem_ownL.2 e.symm))⟩
theorem app_by {t e : TypeId} {B sz bytes n m c : Nat} {v : Value} {xs news : List Value} {a : Addr} (ht : P.underlying t = some (.slice e)) (hi : infB P e sz bytes = true) (hown : Own w B e sz v n xs) (hB : B ≤ size w)
    (hl : news.length = m * sz) (hn : ldsV w a 0 (m * sz) = some news) (h1 : news.all okCell = true) (hlen : (n + m) * bytes ≤ 140737488355328) (hlen' : n + m ≤ maxLen)
    (k : ∀ v' w', Own w' B e sz v' (n + m) (xs ++ news) → Keep (ownL v) w w' → (∀ g, g ∈ ownL v' → g ∈ ownL v ∨ g = size w) → vcL P r Q (upd ρ d v') w') : goApp P t t v (.slice (some a) m c) d r Q ρ w := by
  obtain ⟨i, z, hi1, hi2, hi3, hi4, hi5, hi6⟩ := infB_ok hi
  have hcell : ∀ j u, news[j]? = some u → w.cell? (a.add j) = some u := by
    have key : ∀ (k i : Nat) (l : List Value), ldsV w a i k = some l → ∀ j u, l[j]? = some u → w.cell? (a.add (i + j)) = some u := by
      intro k
      induction k with
      | zero => intro i l h j u hu; injection h with h; subst h; simp at hu
      | succ k ih =>
        intro i l h j u hu
        simp only [ldsV, Option.bind_eq_some_iff, Option.map_eq_some_iff] at h
        obtain ⟨v, hv, r, hr, rfl⟩ := h
        cases j with
        | zero => simp at hu; subst hu; simpa using hv
        | succ j =>
          have := ih (i + 1) r hr j u (by simpa using hu)
          rw [show i + (j + 1) = i + 1 + j from by omega]
          exact this
    intro j u hu
    have := key (m * sz) 0 news hn j u hu
    simpa using this
  obtain ⟨v', w', hrun, h2, h3, _, h5⟩ := run_append_own_at (P := P) w B t 0 e i z sz bytes ht hi1 hi2 hi3 hi4 hi5 hi6 v n xs hown a m c news hl hcell (fun u hu => by rw [okCell_eq]; exact List.all_eq_true.1 h1 u hu) hlen' hlen hB
  refine ⟨v', w', hrun, k v' w' h2 (keep_of_grown h3) ?_⟩
  intro g hg
  rcases h5 with h5 | h5
  · exact .inl (mem_ownL.2 (by rw [← h5]; exact mem_ownL.1 hg))
  · have := mem_ownL.1 hg
    rw [h5] at this
    injection this with this
    exact .inr this.symm
/-- append of nothing. -/
theorem app_nil {t e : TypeId} {B sz bytes n c : Nat} {v : Value} {xs : List Value} (ht : P.underlying t = some (.slice e)) (hi : infB P e sz bytes = true) (hown : Own w B e sz v n xs)
    (k : vcL P r Q (upd ρ d v) w) : goApp P t t v (.slice none 0 c) d r Q ρ w := by
  obtain ⟨i, z, hi1, hi2, hi3, hi4, hi5, hi6⟩ := infB_ok hi
  refine ⟨v, w, ?_, k⟩
  rcases hown.2 with ⟨rfl, rfl⟩ | ⟨g, cap, cur, rfl, _, _, hnc, _⟩
  · simp [Builtin.append_, run_underlying ht, sizeOf, typeInfo, hi1, Builtin.lenOf, Builtin.firstCells]
  · simp [Builtin.append_, run_underlying ht, sizeOf, typeInfo, hi1, Builtin.lenOf, Builtin.firstCells, hnc, storeCells]

/-- copy of a string into a row of bytes. -/
theorem cpy_str {t u e : TypeId} {g o n c : Nat} {s : List UInt8} {l : List Value} (ht : P.underlying t = some (.slice e)) (hi : szOf P e = some 1) (hb : blk w g = some l) (hn : s.length ≤ n) (hfit : o + s.length ≤ l.length)
    (k : vcL P r Q (upd ρ d (.int .i64 s.length)) (put w g (l.take o ++ (s.map fun b => .int .u8 b.toNat) ++ l.drop (o + s.length)))) : goCpy P t u (.slice (some ⟨g, o, none⟩) n c) (.string (bs s)) d r Q ρ w := by
  refine ⟨_, _, ?_, k⟩
  obtain ⟨ty, hty⟩ := blk_some hb
  have hmin : Nat.min s.length n = s.length := Nat.min_eq_left hn
  have hex : ((bs s).extract 0 s.length).data.map (fun b => (Value.int .u8 b.toNat)) = (s.map fun b => (Value.int .u8 b.toNat)).toArray := by
    rw [bs_extract]; simp [bs]
  have hst := run_storeCells_at P g o ty (s.map fun b => .int .u8 b.toNat) 0 l.toArray w hty (by simpa using hfit) (by intro v hv; simp at hv; obtain ⟨b, _, rfl⟩ := hv; rfl)
  simp only [Nat.add_zero, List.length_map] at hst
  rw [put_row hb] at hst
  simp only [Builtin.copy_, Sem.run_bind, List.getElem?_toArray, List.getElem?_cons_zero, List.getElem?_cons_succ, run_underlying ht, Result.andThen_ok, Builtin.lenOf, bs_size, Sem.run_pure, hmin, szOf_run hi, Builtin.firstCells, hex, hst, goInt]
end
end Go.Proofs.Ytfiknjogkpbgdaa.E
