/- append and copy over abstract states. Conditions: as each theorem says. -/
import Derived.Test.YtmgdkoidgoihfaaGreatDoorF5
import Derived.Maps.AppendAt
namespace Go.Proofs.YtmgdkoidgoihfaaGreatDoor.E
open Go.RowKit

/-- Of what was there in a only the blocks in S may have turned in σ. -/
structure Chg (S : List Nat) (a σ : AS) : Prop where
  n : a.n ≤ σ.n
  m : ∀ g, g < a.n → g ∉ S → σ.m g = a.m g
  c : σ.c = a.c
/-- The block of a slice that leads to one. -/
def ownL : Value → List Nat
  | .slice (some a) _ _ => [a.block]
  | _ => []
/-- v is a slice of the walk's own, of n elements (sz cells each), the cells xs. -/
def OwnV (σ : AS) (v : Value) (n sz : Nat) (xs : List Value) : Prop :=
  (v = .slice none 0 0 ∧ n = 0 ∧ xs = []) ∨
  ∃ g c sp, v = .slice (some ⟨g, 0, none⟩) n c ∧ σ.m g = some (.cells (xs ++ sp)) ∧ xs.length = n * sz ∧ (xs ++ sp).length = c * sz ∧ n ≤ c ∧ c ≤ maxLen
section
variable {P : Program} {a b σ σ' : AS} {w : World} {k : Value → AS → Prop} {S T : List Nat} {v : Value} {n sz : Nat} {xs : List Value}
theorem Gar.chg (h : Gar a σ) : Chg [] a σ := ⟨h.n, fun g hg _ => h.m g hg, h.c⟩
theorem Chg.gar (h : Chg [] a σ) : Gar a σ := ⟨h.n, fun g hg => h.m g hg (by simp), h.c⟩
theorem Chg.refl (S : List Nat) (a : AS) : Chg S a a := ⟨Nat.le_refl _, fun _ _ _ => rfl, rfl⟩
theorem Chg.step (h : Chg S a b) (k : Chg T b σ) (ht : ∀ i, i ∈ T → i ∈ S ∨ a.n ≤ i) : Chg S a σ :=
  ⟨Nat.le_trans h.n k.n, fun g hg hn => (k.m g (Nat.lt_of_lt_of_le hg h.n) (fun hT => by
    rcases ht g hT with h1 | h1
    · exact hn h1
    · omega)).trans (h.m g hg hn), k.c.trans h.c⟩
theorem Chg.new (h : Chg S a σ) (ob : Ob) : Chg S a (σ.new ob) := ⟨by rw [new_n]; have := h.n; omega, fun g hg hn => by rw [new_ne (by have := h.n; omega)]; exact h.m g hg hn, h.c⟩
theorem Chg.up (h : Chg S a σ) (j : Nat) : Chg S a (σ.up j) := ⟨by rw [up_n]; have := h.n; omega, h.m, h.c⟩
theorem Chg.put (h : Chg S a σ) {g : Nat} (hg : g ∈ S ∨ a.n ≤ g) (ob : Ob) : Chg S a (σ.put g ob) := ⟨h.n, fun k hk hn => by
  rw [put_ne (by
    rintro rfl
    rcases hg with h1 | h1
    · exact hn h1
    · omega)]
  exact h.m k hk hn, h.c⟩
theorem Chg.two {c : AS} (h : Chg [] a b) (k : Chg S b c) (hS : ∀ g, g ∈ S → a.n ≤ g) : Chg [] a c := h.step k fun i hi => .inr (hS i hi)
theorem Chg.del (h : Chg S a σ) {g : Nat} (hg : g ∈ S ∨ a.n ≤ g) : Chg S a (σ.del g) := ⟨h.n, fun k hk hn => by
  rw [del_ne (by
    rintro rfl
    rcases hg with h1 | h1
    · exact hn h1
    · omega)]
  exact h.m k hk hn, h.c⟩
theorem ownL_s (x : Addr) (n c : Nat) : ownL (.slice (some x) n c) = [x.block] := rfl
theorem ownL_n (n c : Nat) : ownL (.slice none n c) = [] := rfl
theorem OwnV.nil (σ : AS) (sz : Nat) : OwnV σ (.slice none 0 0) 0 sz [] := .inl ⟨rfl, rfl, rfl⟩
theorem OwnV.len (h : OwnV σ v n sz xs) : xs.length = n * sz := by
  rcases h with ⟨_, rfl, rfl⟩ | ⟨_, _, _, _, _, h, _⟩
  · simp
  · exact h
theorem OwnV.lt (h : OwnV σ v n sz xs) {g : Nat} (hg : g ∈ ownL v) : g < σ.n := by
  rcases h with ⟨rfl, _, _⟩ | ⟨g', c, sp, rfl, hm, _⟩
  · simp [ownL] at hg
  · simp [ownL] at hg
    subst hg
    exact σ.lt hm
theorem OwnV.chg (h : OwnV σ v n sz xs) (k : Chg S σ σ') (hn : ∀ g, g ∈ ownL v → g ∉ S) : OwnV σ' v n sz xs := by
  rcases h with h | ⟨g, c, sp, rfl, hm, r⟩
  · exact .inl h
  · exact .inr ⟨g, c, sp, rfl, (k.m g (σ.lt hm) (hn g (by simp [ownL]))).trans hm, r⟩
theorem OwnV.gar (h : OwnV σ v n sz xs) (k : Gar σ σ') : OwnV σ' v n sz xs := h.chg k.chg (fun _ _ => by simp)
theorem OwnV.val (h : OwnV σ v n sz xs) : ∃ x c, v = .slice x n c ∧ n ≤ c := by
  rcases h with ⟨rfl, rfl, _⟩ | ⟨g, c, sp, rfl, _, _, _, h, _⟩
  · exact ⟨none, 0, rfl, Nat.le_refl _⟩
  · exact ⟨_, c, rfl, h⟩
/-- A row that was just made. -/
theorem OwnV.made (σ : AS) (l : List Value) (n sz : Nat) (hl : l.length = n * sz) (hn : n ≤ maxLen) : OwnV (σ.new (.cells l)) (.slice (some ⟨σ.n, 0, none⟩) n n) n sz l :=
  .inr ⟨σ.n, n, [], rfl, by rw [new_eq_, List.append_nil], hl, by rw [List.append_nil]; exact hl, Nat.le_refl _, hn⟩

/-- An element type's size in cells, in bytes. -/
def infB (P : Program) (e : TypeId) (sz bytes : Nat) : Bool :=
  match P.info? e with
  | some i => (match i.zero with | some z => i.size == sz && i.bytes == bytes && z.cells.size == sz && decide (0 < sz) | none => false)
  | none => false
theorem infB_ok {e : TypeId} {sz bytes : Nat} (h : infB P e sz bytes = true) : ∃ i z, P.info? e = some i ∧ i.zero = some z ∧ i.size = sz ∧ i.bytes = bytes ∧ z.cells.size = sz ∧ 0 < sz := by
  unfold infB at h
  split at h
  · rename_i i hi
    split at h
    · rename_i z hz
      simp only [Bool.and_eq_true, beq_iff_eq, decide_eq_true_eq] at h
      exact ⟨i, z, hi, hz, h.1.1.1, h.1.1.2, h.1.2, h.2⟩
    · cases h
  · cases h
theorem run_room (w : World) (t ty e t0 : TypeId) (i : TypeInfo) (ht : P.underlying t = some (.slice e)) (hi : P.info? e = some i)
    (g sLen sCap : Nat) (cur : Array Value) (hg : w.heap[g]? = some (.cells cur t0 (0, 0)))
    (a : Addr) (m c : Nat) (news : List Value) (hl : news.length = m * i.size) (hnews : ∀ j u, news[j]? = some u → w.cell? (a.add j) = some u) (h1 : ∀ u ∈ news, u.oneCell' = true)
    (hroom : sLen + m ≤ sCap) (hfit : sLen * i.size + news.length ≤ cur.size) :
    (Builtin.append_ #[t, t] ty #[.slice (some ⟨g, 0, none⟩) sLen sCap, .slice (some a) m c]).run P w =
      .ok (.slice (some ⟨g, 0, none⟩) (sLen + m) sCap) (w.setRow g (cur.toList.take (sLen * i.size) ++ news ++ cur.toList.drop (sLen * i.size + news.length)).toArray) := by
  have hf := run_firstCells_some (P := P) w i.size m a m c news hl hnews
  have hst := run_storeCells_at P g (sLen * i.size) t0 news 0 cur w hg (by simpa using hfit) h1
  simp only [Nat.add_zero] at hst
  have hadd : (⟨g, 0, none⟩ : Addr).add (sLen * i.size) = ⟨g, sLen * i.size, none⟩ := by rw [E.add_eq]; simp
  simp [Builtin.append_, run_underlying ht, sizeOf, typeInfo, hi, Builtin.lenOf, hroom, hf, hadd, hst]
theorem cells_of_lds (hw : Sat σ w) {b o : Nat} : ∀ {n : Nat} {l : List Value} {o : Nat}, ldsS σ b o n = some l → ∀ j u, l[j]? = some u → w.cell? ⟨b, o + j, none⟩ = some u
  | 0, l, o, h, j, u, hu => by injection h with h; subst h; simp at hu
  | n + 1, l, o, h, j, u, hu => by
    simp only [ldsS, Option.bind_eq_some_iff, Option.map_eq_some_iff] at h
    obtain ⟨v, hv, r, hr, rfl⟩ := h
    cases j with
    | zero => simp at hu; subst hu; exact hw.ld hv
    | succ j =>
      have := cells_of_lds hw (b := b) (o := o) hr j u (by simpa using hu)
      rw [show o + (j + 1) = o + 1 + j from by omega]
      exact this
theorem ldsS_len {b : Nat} : ∀ {n o : Nat} {l : List Value}, ldsS σ b o n = some l → l.length = n
  | 0, o, l, h => by injection h with h; subst h; rfl
  | n + 1, o, l, h => by
    simp only [ldsS, Option.bind_eq_some_iff, Option.map_eq_some_iff] at h
    obtain ⟨v, hv, r, hr, rfl⟩ := h
    simp [ldsS_len hr]
theorem Sat.drew (h : Sat σ w) : Sat σ w.drew := ⟨h.sz, fun g ob hg => obAt_congr (w := w) rfl (h.m g ob hg), h.c⟩
theorem KeepP.drew_alloc (S : Nat → Prop) (w : World) (o : Obj) : KeepP S w (w.drew.alloc o) := (⟨rfl, rfl, rfl, Nat.le_refl _, fun _ _ _ => rfl⟩ : KeepP S w w.drew).step (KeepP.alloc (fun _ => False) w.drew o) (fun _ h => h.elim)

theorem app_by {t e bytes m c b o : Nat} {news : List Value} (ht : P.underlying t = some (.slice e)) (hi : infB P e sz bytes = true) (hown : OwnV σ v n sz xs)
    (hn : ldsS σ b o (m * sz) = some news) (h1 : news.all okCell = true) (hlen : (n + m) * bytes ≤ 140737488355328) (hlen' : n + m ≤ maxLen)
    (hk : ∀ v' σ', OwnV σ' v' (n + m) sz (xs ++ news) → Chg (ownL v) σ σ' → (∀ g, g ∈ ownL v' → g ∈ ownL v ∨ g = σ.n) → k v' σ') : kApp P t t v (.slice (some ⟨b, o, none⟩) m c) σ k := by
  obtain ⟨i, z, hi1, hi2, hi3, hi4, hi5, hi6⟩ := infB_ok hi
  have hl := ldsS_len hn
  intro w hw
  have hcell : ∀ j u, news[j]? = some u → w.cell? ((⟨b, o, none⟩ : Addr).add j) = some u := fun j u hu => by
    rw [E.add_eq]; exact cells_of_lds hw (b := b) (o := o) hn j u hu
  have hok : ∀ u ∈ news, u.oneCell' = true := fun u hu => by rw [okCell_eq]; exact List.all_eq_true.1 h1 u hu
  have hml : n + m ≤ 9223372036854775807 := by unfold maxLen at hlen'; omega
  -- the growing arm
  have grown : ∀ (old : Nat), old < n + m → xs.length = n * sz → (∀ g, g ∈ ownL v → True) → ∀ cap, cap = grownCap w (n + m) old e →
      Out σ w k (.slice (some ⟨w.heap.size, 0, none⟩) (n + m) cap) (w.drew.alloc (.cells (xs.toArray ++ news.toArray ++ Builtin.zeroCells z.cells (cap - (n + m))) e)) := by
    rintro old ho hxl _ cap rfl
    have hge := grownCap_ge w (n + m) old e
    have hcm : grownCap w (n + m) old e ≤ maxLen := grownCap_le_maxLen w (n + m) old e hlen'
    have hz : w.heap.size = σ.n := hw.sz
    have hnew := hw.drew.new (xs ++ news ++ (Builtin.zeroCells z.cells (grownCap w (n + m) old e - (n + m))).toList) e
    have harr : (xs ++ news ++ (Builtin.zeroCells z.cells (grownCap w (n + m) old e - (n + m))).toList).toArray = xs.toArray ++ news.toArray ++ Builtin.zeroCells z.cells (grownCap w (n + m) old e - (n + m)) := by
      apply Array.toList_inj.1; simp
    refine ⟨KeepP.drew_alloc _ _ _, σ.new (.cells (xs ++ news ++ (Builtin.zeroCells z.cells (grownCap w (n + m) old e - (n + m))).toList)), ?_, Fol.new _ _, ?_⟩
    · have : new w.drew (xs ++ news ++ (Builtin.zeroCells z.cells (grownCap w (n + m) old e - (n + m))).toList) e = w.drew.alloc (.cells (xs.toArray ++ news.toArray ++ Builtin.zeroCells z.cells (grownCap w (n + m) old e - (n + m))) e) := by
        unfold new; rw [harr]
      rw [← this]; exact hnew
    · rw [hz]
      refine hk _ _ (.inr ⟨σ.n, _, _, rfl, by rw [new_eq_], by rw [List.length_append, hxl, hl, Nat.add_mul], ?_, hge, hcm⟩) ((Chg.refl _ _).new _) (fun g hg => ?_)
      · simp only [List.length_append, Array.length_toList, size_zeroCells, hi5, hxl, hl, ← Nat.add_mul]
        congr 1; omega
      · simp [ownL] at hg; exact .inr hg
  rcases hown with ⟨rfl, rfl, rfl⟩ | ⟨g, cap, sp, rfl, hm, hxl, hcl, hnc, hcm⟩
  · by_cases hm0 : m = 0
    · subst hm0
      have : news = [] := List.eq_nil_of_length_eq_zero (by simpa using hl)
      subst this
      refine ⟨.slice none 0 0, w, ?_, KeepP.refl _ _, σ, hw, Fol.refl _, hk _ _ (.inl ⟨rfl, rfl, rfl⟩) (Chg.refl _ _) (fun g hg => .inl hg)⟩
      simp [Builtin.append_, run_underlying ht, sizeOf, typeInfo, hi1, Builtin.lenOf, Builtin.firstCells, loadCells, loadCellsFrom]
    · have hr := run_append_nil (P := P) w t 0 e i z ht hi1 hi2 ⟨b, o, none⟩ m c news (by rw [hl, hi3]) hcell (by omega) (by omega) (by rw [hi4]; simp only [Nat.zero_add] at hlen; omega)
      have := grown 0 (by omega) (by simp) (fun _ _ => trivial) _ rfl
      simp only [Nat.zero_add, Array.empty_append] at this
      refine ⟨_, _, hr, ?_⟩
      exact this
  · have hb : blk w g = some (xs ++ sp) := hw.m g _ hm
    obtain ⟨t0, ht0⟩ := blk_some hb
    by_cases hroom : n + m ≤ cap
    · have hfit : n * i.size + news.length ≤ (xs ++ sp).toArray.size := by
        rw [List.size_toArray, hcl, hl, hi3, ← Nat.add_mul]; exact Nat.mul_le_mul_right _ hroom
      have hr := run_room (P := P) w t 0 e t0 i ht hi1 g n cap _ ht0 ⟨b, o, none⟩ m c news (by rw [hl, hi3]) hcell hok hroom hfit
      refine ⟨_, _, hr, ?_⟩
      rw [put_row hb]
      refine ⟨KeepP.put_ (by unfold AS.live; rw [hm]; simp) _, _, hw.put hm _, Fol.put _ _ _, ?_⟩
      have e1 : ((xs ++ sp).toArray.toList.take (n * i.size) ++ news ++ (xs ++ sp).toArray.toList.drop (n * i.size + news.length)) = (xs ++ news) ++ sp.drop news.length := by
        rw [hi3, ← hxl]
        simp only [List.take_left, List.append_assoc]
        rw [← List.drop_drop, List.drop_left]
      rw [e1]
      refine hk _ _ (.inr ⟨g, cap, sp.drop news.length, rfl, by rw [put_eq, hm]; rfl, by rw [List.length_append, hxl, hl, Nat.add_mul], ?_, hroom, hcm⟩) ((Chg.refl _ _).put (.inl (by simp [ownL])) _) (fun g' hg' => .inl (by simpa [ownL] using hg'))
      have h2 : (n + m) * sz ≤ cap * sz := Nat.mul_le_mul_right _ hroom
      rw [Nat.add_mul] at h2
      simp only [List.length_append, List.length_drop, hxl, hl] at hcl ⊢
      omega
    · have holds : ∀ j u, xs[j]? = some u → w.cell? ((⟨g, 0, none⟩ : Addr).add j) = some u := fun j u hu => by
        rw [E.add_eq, cel hb, List.getElem?_append_left (by have := (List.getElem?_eq_some_iff.1 hu).1; omega), Nat.zero_add]; exact hu
      have hr := run_append_grow (P := P) w t 0 e i z ht hi1 hi2 ⟨g, 0, none⟩ n cap xs (by rw [hxl, hi3]) holds ⟨b, o, none⟩ m c news (by rw [hl, hi3]) hcell (by omega) (by omega) (growslice_fits (by omega) (by rw [hi4]; exact hlen))
      exact ⟨_, _, hr, grown cap (by omega) hxl (fun _ _ => trivial) _ rfl⟩
theorem put_out (hw : Sat σ w) {g : Nat} {l l' : List Value} (hb : σ.m g = some (.cells l)) {v : Value} (hk : k v (σ.put g (.cells l'))) : Out σ w k v (put w g l') :=
  ⟨KeepP.put_ (by unfold AS.live; rw [hb]; simp) _, _, hw.put hb _, Fol.put _ _ _, hk⟩
theorem cvb_by {K : Value → Prop} {b o n c : Nat} {l : List UInt8} (hn : l.length = n) (hl : ldsS σ b o n = some (l.map fun b => .int .u8 b.toNat)) (h : K (.string (bs l))) : kCvBS σ (.slice (some ⟨b, o, none⟩) n c) K := ⟨rfl, l, hn, hl, h⟩
theorem cvb_all {K : Value → Prop} {b n c : Nat} {l : List UInt8} (hb : σ.m b = some (.cells (l.map fun b => .int .u8 b.toNat))) (hn : l.length = n) (h : K (.string (bs l))) : kCvBS σ (.slice (some ⟨b, 0, none⟩) n c) K :=
  cvb_by hn (by rw [ldsM hb n 0 (by simp [hn]), List.drop_zero, List.take_of_length_le (by simp [hn])]) h
/-- copy of a string into a row of bytes. -/
theorem cpy_str {t u e g o n c : Nat} {s : List UInt8} {l : List Value} (ht : P.underlying t = some (.slice e)) (hi : szOf P e = some 1) (hb : σ.m g = some (.cells l)) (hn : s.length ≤ n) (hfit : o + s.length ≤ l.length)
    (hk : k (.int .i64 s.length) (σ.put g (.cells (l.take o ++ (s.map fun b => .int .u8 b.toNat) ++ l.drop (o + s.length))))) : kCpy P t u (.slice (some ⟨g, o, none⟩) n c) (.string (bs s)) σ k := by
  intro w hw
  have hb' : blk w g = some l := hw.m g _ hb
  obtain ⟨ty, hty⟩ := blk_some hb'
  have hmin : Nat.min s.length n = s.length := Nat.min_eq_left hn
  have hex : ((bs s).extract 0 s.length).data.map (fun b => (Value.int .u8 b.toNat)) = (s.map fun b => (Value.int .u8 b.toNat)).toArray := by
    rw [bs_extract]; simp [bs]
  have hst := run_storeCells_at P g o ty (s.map fun b => .int .u8 b.toNat) 0 l.toArray w hty (by simpa using hfit) (by intro v hv; simp at hv; obtain ⟨b, _, rfl⟩ := hv; rfl)
  simp only [Nat.add_zero, List.length_map] at hst
  rw [put_row hb'] at hst
  refine ⟨_, _, ?_, put_out hw hb hk⟩
  simp only [Builtin.copy_, Sem.run_bind, List.getElem?_toArray, List.getElem?_cons_zero, List.getElem?_cons_succ, run_underlying ht, Result.andThen_ok, Builtin.lenOf, bs_size, Sem.run_pure, hmin, szOf_run hi, Builtin.firstCells, hex, hst, goInt]
/-- copy of a row into a row. -/
theorem cpy_row {t u e g o n c b o2 m c2 : Nat} {l news : List Value} (ht : P.underlying t = some (.slice e)) (hi : szOf P e = some sz) (hb : σ.m g = some (.cells l)) (hn : ldsS σ b o2 (Nat.min m n * sz) = some news) (h1 : news.all okCell = true) (hfit : o + news.length ≤ l.length)
    (hk : k (.int .i64 (Nat.min m n)) (σ.put g (.cells (l.take o ++ news ++ l.drop (o + news.length))))) : kCpy P t u (.slice (some ⟨g, o, none⟩) n c) (.slice (some ⟨b, o2, none⟩) m c2) σ k := by
  intro w hw
  have hb' : blk w g = some l := hw.m g _ hb
  obtain ⟨ty, hty⟩ := blk_some hb'
  have hlds := lds_run (P := P) (w := w) ⟨b, o2, none⟩ (Nat.min m n * sz) 0 news #[] (hw.lds (a := ⟨b, o2, none⟩) rfl (i := 0) hn)
  have hst := run_storeCells_at P g o ty news 0 l.toArray w hty (by simpa using hfit) (fun v hv => by rw [okCell_eq]; exact List.all_eq_true.1 h1 v hv)
  simp only [Nat.add_zero] at hst
  rw [put_row hb'] at hst
  refine ⟨_, _, ?_, put_out hw hb hk⟩
  simp only [Builtin.copy_, Sem.run_bind, List.getElem?_toArray, List.getElem?_cons_zero, List.getElem?_cons_succ, run_underlying ht, Result.andThen_ok, Builtin.lenOf, Sem.run_pure, szOf_run hi, Builtin.firstCells, loadCells, hlds]
  simp only [Array.empty_append, hst, Result.andThen_ok, goInt]
end
end Go.Proofs.YtmgdkoidgoihfaaGreatDoor.E
