/- Maps as things that lie apart: look-up, store, deletion, how many there are, and ranges in whatever order. Conditions: as each theorem says. -/
import Derived.Test.YtmgdkoidgoihfaaGreatDoorG0
import Derived.Maps.RangeRun
import Derived.MapKept
namespace Go.Proofs.YtmgdkoidgoihfaaGreatDoor.E
open Go.RowKit Go.Lib Go.MapKept
open Go.ChangeMaps (setBlock)
set_option linter.unusedVariables false
set_option linter.unusedSimpArgs false

/-- Keys: how one is a value. -/
class KeyT (κ : Type) where
  enc : κ → Value
  d : TypeDesc
  ok : ∀ k, IsKey d (enc k)
  inj : ∀ {a b}, enc a = enc b → a = b
  stays : ∀ a, Instr.sameBits 10000 (enc a) (enc a) = true
instance : KeyT Int := ⟨.int .i64, .int .i64, fun _ => rfl, fun h => by injection h, fun a => by simp [Instr.sameBits]⟩
instance : KeyT Str := ⟨fun s => .string (bs s), .string, fun _ => trivial, fun h => by
  injection h with h
  have := congrArg (fun b => b.data.toList) h
  simpa [bs] using this, fun a => by
  show (bs a == bs a) = true
  exact (bytes_beq _ _).2 rfl⟩
abbrev encK {κ : Type} [KeyT κ] : κ → Value := KeyT.enc
theorem encK_i (n : Int) : (KeyT.enc n : Value) = .int .i64 n := rfl
theorem encK_s (s : Str) : (KeyT.enc s : Value) = .string (bs s) := rfl

section
variable {κ : Type}
abbrev En (κ : Type) := κ × Value × Nat
def enE [KeyT κ] (e : En κ) : MapEntry := ⟨encK e.1, e.2.1, e.2.2⟩
def mapO [KeyT κ] (es : List (En κ)) (clk : Nat) : Go.Obj := .map (es.map enE).toArray clk
def keyV (e : En κ) : κ × Value := (e.1, e.2.1)
/-- Keys are there once, stamps rise, all below the clock. -/
structure WF (es : List (En κ)) (clk : Nat) : Prop where
  keys : es.Pairwise (fun a b => a.1 ≠ b.1)
  born : es.Pairwise (fun a b => a.2.2 < b.2.2)
  lt : ∀ e, e ∈ es → e.2.2 < clk
def ins [DecidableEq κ] (l : List (κ × Value)) (k : κ) (v : Value) : List (κ × Value) := if (l.lookup k).isSome then l.map (fun p => if p.1 = k then (k, v) else p) else l ++ [(k, v)]
def del [DecidableEq κ] (l : List (κ × Value)) (k : κ) : List (κ × Value) := l.filter (fun p => decide (p.1 ≠ k))
/-- What an iterator in block i has gone through. -/
def ItOk (σ : AS) (r : Nat) (es : List (En κ)) (clk : Nat) (F : List Nat) : Option (Nat × List κ) → Prop
  | none => F = [r]
  | some (i, vis) => F = [r, i] ∧ r ≠ i ∧ ∃ seen : Array Nat, σ.m i = some (.other (.mapIter (some r) clk seen clk)) ∧ (∀ e, e ∈ es → (e.2.2 ∈ seen ↔ e.1 ∈ vis)) ∧ (∀ s, s ∈ seen → s < clk) ∧ ∀ e, e ∈ es → vis.head? = some e.1 → ∃ s0 : Array Nat, seen = s0.push e.2.2
def Mp [KeyT κ] (r : Nat) (it : Option (Nat × List κ)) (l : List (κ × Value)) : Ck := ⟨fun F X σ => ∃ es clk, es.map keyV = l ∧ WF es clk ∧ σ.m r = some (.other (mapO es clk)) ∧ ItOk σ r es clk F it, fun {F X X' σ σ'} ⟨es, clk, h1, h2, h3, h4⟩ _ hm => by
    have hr : r ∈ F := by
      unfold ItOk at h4
      split at h4
      · rw [h4]; simp
      · rw [h4.1]; simp
    refine ⟨es, clk, h1, h2, (hm r hr).trans h3, ?_⟩
    unfold ItOk at h4 ⊢
    split at h4
    · exact h4
    · obtain ⟨h5, h6, seen, h7, h8⟩ := h4
      exact ⟨h5, h6, seen, (hm _ (by rw [h5]; simp)).trans h7, h8⟩, fun {F X σ} ⟨es, clk, h1, h2, h3, h4⟩ g hg => by
    unfold ItOk at h4
    split at h4
    · rw [h4] at hg; simp at hg; subst hg; exact σ.lt h3
    · obtain ⟨h5, h6, seen, h7, h8⟩ := h4
      rw [h5] at hg
      simp at hg
      rcases hg with rfl | rfl
      · exact σ.lt h3
      · exact σ.lt h7⟩

/-! ### Lists -/
theorem lookup_none [DecidableEq κ] {l : List (κ × Value)} {k : κ} : (∀ p, p ∈ l → p.1 ≠ k) → l.lookup k = none := by
  induction l with
  | nil => intro _; rfl
  | cons p l ih =>
    intro h
    have h1 := h p (by simp)
    rw [List.lookup_cons]
    have : (k == p.1) = false := by simp; exact fun e => h1 e.symm
    rw [this]
    exact ih (fun q hq => h q (by simp [hq]))
theorem lookup_some [DecidableEq κ] {l : List (κ × Value)} {k : κ} {v : Value} (hk : l.Pairwise (fun a b => a.1 ≠ b.1)) (h : (k, v) ∈ l) : l.lookup k = some v := by
  induction l with
  | nil => cases h
  | cons p l ih =>
    rw [List.pairwise_cons] at hk
    rw [List.lookup_cons]
    rcases List.mem_cons.1 h with rfl | h
    · simp
    · have : (k == p.1) = false := by simp; exact fun e => hk.1 _ h e.symm
      rw [this]
      exact ih hk.2 h
theorem lookup_mem [DecidableEq κ] {l : List (κ × Value)} {k : κ} {v : Value} (h : l.lookup k = some v) : (k, v) ∈ l := by
  induction l with
  | nil => cases h
  | cons p l ih =>
    rw [List.lookup_cons] at h
    split at h
    · rename_i he
      obtain rfl : k = p.1 := by simpa using he
      injection h with h
      subst h
      simp
    · exact List.mem_cons_of_mem _ (ih h)
theorem WF.keysV {es : List (En κ)} {clk : Nat} (h : WF es clk) : (es.map keyV).Pairwise (fun a b => a.1 ≠ b.1) := by
  rw [List.pairwise_map]; exact h.keys
/-- The search for a key, as the model makes it. -/
theorem find_spec [KeyT κ] (es : List (En κ)) (k : κ) :
    (Instr.findNow (KeyT.d κ) (encK k) (es.map enE) 0 = some none ∧ ∀ e, e ∈ es → e.1 ≠ k) ∨
    ∃ j v b, Instr.findNow (KeyT.d κ) (encK k) (es.map enE) 0 = some (some (j, v)) ∧ es[j]? = some (k, v, b) := by
  rcases findNow_spec (d := KeyT.d κ) (k := encK k) (KeyT.ok k) (es.map enE) 0 (fun x hx => by
    obtain ⟨e, _, rfl⟩ := List.mem_map.1 hx
    exact KeyT.ok e.1) with ⟨h1, h2⟩ | ⟨j, e, h1, h2, h3⟩
  · exact .inl ⟨h1, fun e he hk => h2 (enE e) (List.mem_map.2 ⟨e, he, rfl⟩) (by rw [← hk]; rfl)⟩
  · rw [List.getElem?_map, Option.map_eq_some_iff] at h2
    obtain ⟨a, ha, rfl⟩ := h2
    have : a.1 = k := KeyT.inj h3
    subst this
    exact .inr ⟨j, a.2.1, a.2.2, by rw [Nat.zero_add] at h1; exact h1, ha⟩
theorem erase_at [DecidableEq κ] {es : List (En κ)} {k : κ} {v : Value} {b : Nat} (hk : es.Pairwise (fun a b => a.1 ≠ b.1)) {j : Nat} (hj : es[j]? = some (k, v, b)) : es.eraseIdx j = es.filter (fun e => decide (e.1 ≠ k)) := by
  induction es generalizing j with
  | nil => simp at hj
  | cons e es ih =>
    rw [List.pairwise_cons] at hk
    cases j with
    | zero =>
      simp only [List.getElem?_cons_zero, Option.some.injEq] at hj
      subst hj
      simp only [List.eraseIdx_cons_zero, List.filter_cons, ne_eq, not_true_eq_false, decide_false, Bool.false_eq_true, if_false]
      rw [List.filter_eq_self.2]
      intro a ha
      have := hk.1 a ha
      simp; exact fun e => this e.symm
    | succ j =>
      simp only [List.getElem?_cons_succ] at hj
      have hm : (k, v, b) ∈ es := List.mem_of_getElem? hj
      have hne : e.1 ≠ k := hk.1 _ hm
      simp only [List.eraseIdx_cons_succ, List.filter_cons, ne_eq, hne, not_false_eq_true, decide_true, if_true]
      rw [ih hk.2 hj]
theorem modify_at [DecidableEq κ] {es : List (En κ)} {k : κ} {v u : Value} {b : Nat} (hk : es.Pairwise (fun a b => a.1 ≠ b.1)) {j : Nat} (hj : es[j]? = some (k, v, b)) : es.modify j (fun e => (k, u, e.2.2)) = es.map (fun e => if e.1 = k then (k, u, e.2.2) else e) := by
  induction es generalizing j with
  | nil => simp at hj
  | cons e es ih =>
    rw [List.pairwise_cons] at hk
    cases j with
    | zero =>
      simp only [List.getElem?_cons_zero, Option.some.injEq] at hj
      subst hj
      simp only [List.modify_zero_cons, List.map_cons, if_true]
      congr 1
      rw [List.map_congr_left (g := id) (fun a ha => ?_), List.map_id]
      have := hk.1 a ha
      simp; exact fun e => absurd e.symm this
    | succ j =>
      simp only [List.getElem?_cons_succ] at hj
      have hm : (k, v, b) ∈ es := List.mem_of_getElem? hj
      have hne : e.1 ≠ k := hk.1 _ hm
      simp only [List.modify_succ_cons, List.map_cons, if_neg hne]
      rw [ih hk.2 hj]

/-! ### Steps -/
variable {σ : AS} {X : Ce} {R : List Ck} {P : Program} {K : Value → AS → Prop} {r i : Nat} {it : Option (Nat × List κ)} {l : List (κ × Value)} {t kt et : TypeId} {k : κ} {v z : Value} {vis : List κ}
theorem sat_set {w : World} {g : Nat} {o o' : Go.Obj} {ob : Ob} (hw : Sat σ w) (hg : σ.m g = some ob) (ho : ob = .other o) : Sat (σ.put g (.other o')) (setBlock w g o') ∧ KeepP σ.live w (setBlock w g o') := by
  subst ho
  have hh : w.heap[g]? = some o := hw.m g _ hg
  have hlt : g < w.heap.size := (Array.getElem?_eq_some_iff.1 hh).1
  have hne : ∀ k, k ≠ g → (setBlock w g o').heap[k]? = w.heap[k]? := fun k hk => by
    show (w.heap.setIfInBounds g o')[k]? = _
    rw [Array.getElem?_setIfInBounds, if_neg (fun e => hk e.symm)]
  refine ⟨⟨?_, ?_, ?_⟩, ⟨rfl, rfl, rfl, ?_, fun k hk hn => hne k ?_⟩⟩
  · show (w.heap.setIfInBounds g o').size = _
    rw [Array.size_setIfInBounds]; exact hw.sz
  · intro k ob hk
    by_cases e : k = g
    · subst e
      rw [put_eq, hg] at hk
      injection hk with hk; subst hk
      show (w.heap.setIfInBounds k o')[k]? = _
      rw [Array.getElem?_setIfInBounds, if_pos rfl, if_pos hlt]
    · rw [put_ne e] at hk
      exact obAt_congr (hne k e) (hw.m k ob hk)
  · intro b o v hv
    rw [put_c] at hv
    have e : b ≠ g := by
      rintro rfl
      have := (σ.wc b o (by simp [hv])).2
      rw [hg] at this; cases this
    rw [World.cell?_of_block (w := w) (a := ⟨b, o, none⟩) (hne b e)]
    exact hw.c b o v hv
  · show w.heap.size ≤ (w.heap.setIfInBounds g o').size
    rw [Array.size_setIfInBounds]; exact Nat.le_refl _
  · rintro rfl; exact hn (by unfold AS.live; rw [hg]; simp)
theorem out_set {w : World} {g : Nat} {o o' : Go.Obj} (hw : Sat σ w) (hg : σ.m g = some (.other o)) {u : Value} (hk : K u (σ.put g (.other o'))) : Out σ w K u (setBlock w g o') :=
  ⟨(sat_set hw hg rfl).2, _, (sat_set hw hg rfl).1, Fol.put _ _ _, hk⟩
theorem Mp.mem {F : List Nat} {es : List (En κ)} {clk : Nat} (h : ItOk σ r es clk F it) : r ∈ F := by
  unfold ItOk at h
  split at h
  · rw [h]; simp
  · rw [h.1]; simp
theorem lk_by [KeyT κ] [DecidableEq κ] (h : Hs σ X (Mp r it l :: R)) (ht : P.underlying t = some (.map kt et)) (hk : P.underlying kt = some (KeyT.d κ)) (hz : ∀ w, (zeroValue et).run P w = .ok z w)
    (hK : K ((l.lookup k).getD z) σ) : kGen P (.lk t false) [.map (some r), encK k] σ K := by
  obtain ⟨F, ⟨es, clk, rfl, h2, h3, h4⟩, _⟩ := h.s
  intro w hw
  have hh : w.heap[r]? = some (mapO es clk) := hw.m r _ h3
  refine ⟨_, w, ?_, Out.same hw hK⟩
  simp only [lkSem, Instr.lookup, Sem.run_bind, run_underlying ht, Result.andThen_ok, Go.MapKept.run_getObj_map hh, Sem.run_pure, run_checkKey hk (KeyT.ok k)]
  rcases find_spec es k with ⟨h5, h6⟩ | ⟨j, v, b, h5, h6⟩
  · simp only [run_findKey hk h5, Result.andThen_ok, Sem.run_bind, hz, Sem.run_pure]
    rw [lookup_none (fun p hp => by
      obtain ⟨e, he, rfl⟩ := List.mem_map.1 hp
      exact h6 e he)]
    rfl
  · simp only [run_findKey hk h5, Result.andThen_ok, Sem.run_pure]
    rw [lookup_some h2.keysV (List.mem_map.2 ⟨_, List.mem_of_getElem? h6, rfl⟩ : (k, v) ∈ _)]
    rfl
theorem lk2_by [KeyT κ] [DecidableEq κ] (h : Hs σ X (Mp r it l :: R)) (ht : P.underlying t = some (.map kt et)) (hk : P.underlying kt = some (KeyT.d κ)) (hz : ∀ w, (zeroValue et).run P w = .ok z w)
    (hK : K (.tuple #[(l.lookup k).getD z, .bool (l.lookup k).isSome]) σ) : kGen P (.lk t true) [.map (some r), encK k] σ K := by
  obtain ⟨F, ⟨es, clk, rfl, h2, h3, h4⟩, _⟩ := h.s
  intro w hw
  have hh : w.heap[r]? = some (mapO es clk) := hw.m r _ h3
  refine ⟨_, w, ?_, Out.same hw hK⟩
  simp only [lkSem, Instr.lookup, Sem.run_bind, run_underlying ht, Result.andThen_ok, Go.MapKept.run_getObj_map hh, Sem.run_pure, run_checkKey hk (KeyT.ok k)]
  rcases find_spec es k with ⟨h5, h6⟩ | ⟨j, v, b, h5, h6⟩
  · simp only [run_findKey hk h5, Result.andThen_ok, Sem.run_bind, hz, Sem.run_pure]
    rw [lookup_none (fun p hp => by
      obtain ⟨e, he, rfl⟩ := List.mem_map.1 hp
      exact h6 e he)]
    rfl
  · simp only [run_findKey hk h5, Result.andThen_ok, Sem.run_pure]
    rw [lookup_some h2.keysV (List.mem_map.2 ⟨_, List.mem_of_getElem? h6, rfl⟩ : (k, v) ∈ _)]
    rfl
theorem len_by [KeyT κ] {ty : TypeId} (h : Hs σ X (Mp r it l :: R)) (ht : P.underlying t = some (.map kt et)) (hK : K (.int .i64 l.length) σ) : kGen P (.blt .len [t] ty) [.map (some r)] σ K := by
  obtain ⟨F, ⟨es, clk, rfl, h2, h3, h4⟩, _⟩ := h.s
  intro w hw
  have hh : w.heap[r]? = some (mapO es clk) := hw.m r _ h3
  refine ⟨_, w, ?_, Out.same hw hK⟩
  simp [lkSem, bltSem, Builtin.len_, run_underlying ht, Go.MapKept.run_getObj_map hh, goInt]
/-- What a turn of the entries leaves of the map. -/
theorem Mp.turn [KeyT κ] (h : Hs σ X (Mp r it l :: R)) : ∃ es clk, es.map keyV = l ∧ WF es clk ∧ σ.m r = some (.other (mapO es clk)) ∧ ∀ es' clk' , WF es' clk' → (it = none ∨ (clk' = clk ∧ ∀ e, e ∈ es' → ∃ u, (e.1, u, e.2.2) ∈ es)) → Hs (σ.put r (.other (mapO es' clk'))) X (Mp r it (es'.map keyV) :: R) := by
  obtain ⟨F, ⟨es, clk, rfl, h2, h3, h4⟩, hk⟩ := h.turn
  refine ⟨es, clk, rfl, h2, h3, fun es' clk' hw hi => ?_⟩
  refine hk (F' := F) ((Chg.refl _ _).put (.inl (Mp.mem h4)) _) ⟨es', clk', rfl, hw, by rw [put_eq, h3]; rfl, ?_⟩ (fun g hg => .inl hg)
  unfold ItOk at h4 ⊢
  split at h4
  · exact h4
  · obtain ⟨h5, h6, seen, h7, h8, h9, h10⟩ := h4
    rcases hi with hi | ⟨rfl, hi⟩
    · cases hi
    · refine ⟨h5, h6, seen, by rw [put_ne (Ne.symm h6)]; exact h7, fun e he => ?_, h9, fun e he hv => ?_⟩
      · obtain ⟨u, hu⟩ := hi e he
        exact (h8 (e.1, u, e.2.2) hu)
      · obtain ⟨u, hu⟩ := hi e he
        exact (h10 (e.1, u, e.2.2) hu hv)
theorem del_by [KeyT κ] [DecidableEq κ] {ty t2 : TypeId} (h : Hs σ X (Mp r it l :: R)) (ht : P.underlying t = some (.map kt et)) (hk : P.underlying kt = some (KeyT.d κ))
    (hK : ∀ σ', Hs σ' X (Mp r it (del l k) :: R) → K (.tuple #[]) σ') : kGen P (.blt .delete [t, t2] ty) [.map (some r), encK k] σ K := by
  obtain ⟨es, clk, rfl, h2, h3, ht'⟩ := Mp.turn h
  intro w hw
  have hh : w.heap[r]? = some (mapO es clk) := hw.m r _ h3
  have hwf : WF (es.filter (fun e => decide (e.1 ≠ k))) clk := ⟨h2.keys.filter _, h2.born.filter _, fun e he => h2.lt e (List.mem_filter.1 he).1⟩
  have hfin := hK _ (by
    have := ht' _ clk hwf (.inr ⟨rfl, fun e he => ⟨e.2.1, (List.mem_filter.1 he).1⟩⟩)
    have e : (es.filter (fun e => decide (e.1 ≠ k))).map keyV = del (es.map keyV) k := by
      unfold del
      rw [List.filter_map]
      rfl
    rw [e] at this
    exact this)
  refine ⟨_, _, ?_, out_set hw h3 hfin⟩
  simp only [lkSem, bltSem, Builtin.delete_, Sem.run_bind, List.getElem?_toArray, List.getElem?_cons_zero, List.getElem?_cons_succ, run_underlying ht, Result.andThen_ok, Go.MapKept.run_getObj_map hh, run_checkKey hk (KeyT.ok k)]
  rcases find_spec es k with ⟨h5, h6⟩ | ⟨j, v, b, h5, h6⟩
  · have e : es.filter (fun e => decide (e.1 ≠ k)) = es := List.filter_eq_self.2 (fun e he => by simpa using h6 e he)
    rw [e]
    simp only [run_findKey hk h5, Result.andThen_ok, Sem.run_bind, Go.MapKept.run_setObj_map _ hh, Sem.run_pure]
    rfl
  · rw [← erase_at h2.keys h6]
    have hj : j < es.length := (List.getElem?_eq_some_iff.1 h6).1
    have e : mapO (es.eraseIdx j) clk = .map ((es.map enE).toArray.eraseIdxIfInBounds j) clk := by
      unfold mapO
      congr 1
      apply Array.toList_inj.1
      rw [Array.eraseIdxIfInBounds, dif_pos (by simpa using hj)]
      simp [Go.ChangeMaps.map_eraseIdx]
    rw [e]
    simp only [run_findKey hk h5, Result.andThen_ok, Sem.run_bind, Go.MapKept.run_setObj_map _ hh, Sem.run_pure]
    rfl
theorem mup_by [KeyT κ] [DecidableEq κ] (h : Hs σ X (Mp r none l :: R)) (ht : P.underlying t = some (.map kt et)) (hk : P.underlying kt = some (KeyT.d κ))
    (hK : ∀ σ', Hs σ' X (Mp r none (ins l k v) :: R) → K undef σ') : kGen P (.mup t) [.map (some r), encK k, v] σ K := by
  obtain ⟨es, clk, rfl, h2, h3, ht'⟩ := Mp.turn h
  intro w hw
  have hh : w.heap[r]? = some (mapO es clk) := hw.m r _ h3
  rcases find_spec es k with ⟨h5, h6⟩ | ⟨j, v0, b, h5, h6⟩
  · have hl : (es.map keyV).lookup k = none := lookup_none (fun p hp => by
      obtain ⟨e, he, rfl⟩ := List.mem_map.1 hp
      exact h6 e he)
    have hwf : WF (es ++ [(k, v, clk)]) (clk + 1) := ⟨by
      rw [List.pairwise_append]
      refine ⟨h2.keys, by simp, fun a ha b hb => ?_⟩
      simp at hb; subst hb; exact h6 a ha, by
      rw [List.pairwise_append]
      refine ⟨h2.born, by simp, fun a ha b hb => ?_⟩
      simp at hb; subst hb; exact h2.lt a ha, fun e he => by
      simp at he
      rcases he with he | rfl
      · have := h2.lt e he; omega
      · show clk < _; omega⟩
    have hfin := hK _ (by
      have := ht' _ _ hwf (.inl rfl)
      have e : (es ++ [(k, v, clk)]).map keyV = ins (es.map keyV) k v := by
        unfold ins
        rw [hl]
        simp [keyV]
      rw [e] at this
      exact this)
    refine ⟨_, _, ?_, out_set hw h3 hfin⟩
    simp only [lkSem, Instr.mapUpdate, Sem.run_bind, run_underlying ht, Result.andThen_ok, Go.MapKept.run_getObj_map hh, run_checkKey hk (KeyT.ok k)]
    have h5' : Instr.findNow (KeyT.d κ) (encK k) ((es.map enE).toArray).toList 0 = some none := h5
    simp only [run_findKey hk h5', Result.andThen_ok, Sem.run_bind, Go.MapKept.run_setObj_map _ hh, Sem.run_pure]
    have e : mapO (es ++ [(k, v, clk)]) (clk + 1) = .map ((es.map enE).toArray.push { key := encK k, val := v, born := clk }) (clk + 1) := by
      unfold mapO
      congr 1
      simp [enE]
    rw [e]
    rfl
  · have hl : (es.map keyV).lookup k = some v0 := lookup_some h2.keysV (List.mem_map.2 ⟨_, List.mem_of_getElem? h6, rfl⟩ : (k, v0) ∈ _)
    have hwf : WF (es.map (fun e => if e.1 = k then (k, v, e.2.2) else e)) clk := by
      refine ⟨?_, ?_, fun e he => ?_⟩
      · rw [List.pairwise_map]
        refine h2.keys.imp (fun {a b} hab => ?_)
        have ea : ∀ a : En κ, (if a.1 = k then ((k, v, a.2.2) : En κ) else a).1 = a.1 := fun a => by split <;> simp_all
        rw [ea, ea]; exact hab
      · rw [List.pairwise_map]
        refine h2.born.imp (fun {a b} hab => ?_)
        have ea : ∀ a : En κ, (if a.1 = k then ((k, v, a.2.2) : En κ) else a).2.2 = a.2.2 := fun a => by split <;> simp_all
        rw [ea, ea]; exact hab
      · obtain ⟨a, ha, rfl⟩ := List.mem_map.1 he
        have ea : (if a.1 = k then ((k, v, a.2.2) : En κ) else a).2.2 = a.2.2 := by split <;> simp_all
        rw [ea]; exact h2.lt a ha
    have hfin := hK _ (by
      have := ht' _ _ hwf (.inl rfl)
      have e : (es.map (fun e => if e.1 = k then (k, v, e.2.2) else e)).map keyV = ins (es.map keyV) k v := by
        unfold ins
        rw [hl]
        simp only [Option.isSome_some, if_true, List.map_map]
        refine List.map_congr_left (fun a _ => ?_)
        simp only [Function.comp, keyV]
        by_cases hak : a.1 = k <;> simp [hak]
      rw [e] at this
      exact this)
    refine ⟨_, _, ?_, out_set hw h3 hfin⟩
    simp only [lkSem, Instr.mapUpdate, Sem.run_bind, run_underlying ht, Result.andThen_ok, Go.MapKept.run_getObj_map hh, run_checkKey hk (KeyT.ok k)]
    have h5' : Instr.findNow (KeyT.d κ) (encK k) ((es.map enE).toArray).toList 0 = some (some (j, v0)) := h5
    simp only [run_findKey hk h5', Result.andThen_ok]
    have hkey : ((((es.map enE).toArray)[j]?).map (·.key)).getD (encK k) = encK k := by
      simp [h6, enE]
    have hst : (Instr.keyThatStays ((((es.map enE).toArray)[j]?).map (·.key) |>.getD (encK k)) (encK k)).run P w = .ok (encK k) w := by
      rw [hkey]
      unfold Instr.keyThatStays
      rw [if_pos (KeyT.stays k)]
      rfl
    simp only [Sem.run_bind, hst, Result.andThen_ok, Go.MapKept.run_setObj_map _ hh, Sem.run_pure]
    have e : mapO (es.map (fun e => if e.1 = k then (k, v, e.2.2) else e)) clk = .map ((es.map enE).toArray.modify j fun e => { e with key := encK k, val := v }) clk := by
      rw [← modify_at h2.keys h6]
      unfold mapO
      congr 1
      apply Array.toList_inj.1
      simp only [Array.toList_modify]
      have mm : ∀ (es : List (En κ)) (j : Nat), (es.modify j (fun e => (k, v, e.2.2))).map enE = (es.map enE).modify j (fun e : MapEntry => { e with key := encK k, val := v }) := by
        intro es
        induction es with
        | nil => intro j; cases j <;> rfl
        | cons e es ih =>
          intro j
          cases j with
          | zero => rfl
          | succ j => simp only [List.modify_succ_cons, List.map_cons, ih j]
      exact mm es j
    rw [e]
    rfl
theorem rng_by [KeyT κ] (h : Hs σ X (Mp r none l :: R)) (ht : P.underlying t = some (.map kt et))
    (hK : ∀ σ', Hs σ' X (Mp r (some (σ.n, [])) l :: R) → K (.pointer (some ⟨σ.n, 0, none⟩)) σ') : kGen P (.rng t) [.map (some r)] σ K := by
  obtain ⟨F, ⟨es, clk, rfl, h2, h3, h4⟩, hk⟩ := h.turn
  have h4 : F = [r] := h4
  subst h4
  have hlt := σ.lt h3
  intro w hw
  have hh : w.heap[r]? = some (mapO es clk) := hw.m r _ h3
  have hs := hw.new_ (o := .mapIter (some r) clk #[] clk) (ob := .other (.mapIter (some r) clk #[] clk)) (fun _ he => he)
  have hz : w.heap.size = σ.n := hw.sz
  refine ⟨_, _, run_range_map w t kt et r _ clk ht hh, ?_⟩
  rw [hz]
  refine ⟨KeepP.alloc _ _ _, _, hs, Fol.new _ _, hK _ ?_⟩
  refine hk (F' := [r, σ.n]) ((Chg.refl _ _).new _) ⟨es, clk, rfl, h2, by rw [new_ne (by omega)]; exact h3, rfl, by omega, #[], new_eq_, by simp, by simp, by simp⟩ (fun g hg => by
    simp at hg ⊢
    rcases hg with rfl | rfl
    · exact .inl rfl
    · exact .inr (Nat.le_refl _))
theorem nxt_by [KeyT κ] {ty : TypeId} (h : Hs σ X (Mp r (some (i, vis)) l :: R)) (hdone : (∀ p, p ∈ l → p.1 ∈ vis) → K (.tuple #[.bool false]) σ)
    (hnext : ∀ k v σ', (k, v) ∈ l → k ∉ vis → Hs σ' X (Mp r (some (i, k :: vis)) l :: R) → K (.tuple #[.bool true, encK k, v]) σ') : kGen P (.nxt false ty) [.pointer (some ⟨i, 0, none⟩)] σ K := by
  obtain ⟨F, ⟨es, clk, rfl, h2, h3, h5, h6, seen, h7, h8, h9, h10⟩, hk⟩ := h.turn
  intro w hw
  have hh : w.heap[r]? = some (mapO es clk) := hw.m r _ h3
  have hi : w.heap[i]? = some (.mapIter (some r) clk seen clk) := hw.m i _ h7
  rcases run_next_at (P := P) w ty i r clk clk seen _ clk hi hh (fun x hx => by
    simp at hx
    obtain ⟨a, b, c, he, rfl⟩ := hx
    exact h2.lt _ he) (Nat.le_refl _) with ⟨h11, h12⟩ | ⟨e, he, w1, hw1, hrun⟩
  · refine ⟨_, w, h12, Out.same hw (hdone (fun p hp => ?_))⟩
    obtain ⟨e, he, rfl⟩ := List.mem_map.1 hp
    show e.1 ∈ vis
    rw [← h8 e he]
    have hsz : leftOf (es.map enE).toArray seen = #[] := Array.eq_empty_of_size_eq_zero h11
    unfold leftOf at hsz
    rw [Array.filter_eq_empty_iff] at hsz
    have := hsz (enE e) (by simp; exact ⟨e.1, e.2.1, e.2.2, he, rfl⟩)
    simpa [enE] using this
  · unfold leftOf at he
    simp at he
    obtain ⟨⟨a, b, c, hm, rfl⟩, hns⟩ := he
    have hs1 : Sat σ w1 := by
      rcases hw1 with rfl | rfl
      · exact hw
      · exact hw.drew
    have hkp : KeepP σ.live w w1 := by
      rcases hw1 with rfl | rfl
      · exact KeepP.refl _ _
      · exact KeepP.drewN _ _ 1
    refine ⟨_, _, hrun, ?_⟩
    obtain ⟨hs2, hk2⟩ := sat_set (o' := .mapIter (some r) clk (seen.push (enE (a, b, c)).born) clk) hs1 h7 rfl
    refine ⟨hkp.step hk2 (fun g hg => .inl hg), _, hs2, Fol.put _ _ _, hnext a b _ (List.mem_map.2 ⟨_, hm, rfl⟩) (fun hv => hns ((h8 _ hm).2 hv)) ?_⟩
    refine hk (F' := F) ((Chg.refl _ _).put (.inl (by rw [h5]; simp)) _) ⟨es, clk, rfl, h2, by rw [put_ne h6]; exact h3, h5, h6, _, by rw [put_eq, h7]; rfl, fun e he => ?_, fun s hs => ?_, fun e he hv => ?_⟩ (fun g hg => .inl hg)
    · simp only [Array.mem_push, List.mem_cons, h8 e he]
      constructor
      · rintro (hx | hx)
        · exact .inr hx
        · left
          by_cases heq : e = (a, b, c)
          · rw [heq]
          · exfalso
            have hx' : e.2.2 = c := hx
            have := h2.born
            rw [List.pairwise_iff_getElem] at this
            obtain ⟨x, hx1, rfl⟩ := List.getElem_of_mem he
            obtain ⟨y, hy1, hy2⟩ := List.getElem_of_mem hm
            rcases Nat.lt_trichotomy x y with hlt | rfl | hlt
            · have := this x y hx1 hy1 hlt; rw [hy2] at this; simp only at this; omega
            · exact heq hy2
            · have := this y x hy1 hx1 hlt; rw [hy2] at this; simp only at this; omega
      · rintro (hx | hx)
        · right
          have hx : e.1 = a := hx
          by_cases heq : e = (a, b, c)
          · rw [heq]; rfl
          · exfalso
            have := h2.keys
            rw [List.pairwise_iff_getElem] at this
            obtain ⟨x, hx1, rfl⟩ := List.getElem_of_mem he
            obtain ⟨y, hy1, hy2⟩ := List.getElem_of_mem hm
            rcases Nat.lt_trichotomy x y with hlt | rfl | hlt
            · have := this x y hx1 hy1 hlt; rw [hy2] at this; exact this hx
            · exact heq hy2
            · have := this y x hy1 hx1 hlt; rw [hy2] at this; exact this hx.symm
        · exact .inl hx
    · simp only [Array.mem_push] at hs
      rcases hs with hs | rfl
      · exact h9 s hs
      · exact h2.lt _ hm
    · simp only [List.head?_cons, Option.some.injEq] at hv
      refine ⟨seen, ?_⟩
      have heq : e = (a, b, c) := by
        by_cases heq : e = (a, b, c)
        · exact heq
        · exfalso
          have := h2.keys
          rw [List.pairwise_iff_getElem] at this
          obtain ⟨x, hx1, rfl⟩ := List.getElem_of_mem he
          obtain ⟨y, hy1, hy2⟩ := List.getElem_of_mem hm
          rcases Nat.lt_trichotomy x y with hlt | rfl | hlt
          · have := this x y hx1 hy1 hlt; rw [hy2] at this; exact this hv.symm
          · exact heq hy2
          · have := this y x hy1 hx1 hlt; rw [hy2] at this; exact this hv
      rw [heq]; rfl
/-- The key and the value of the step that was made. -/
theorem ent_by [KeyT κ] (h : Hs σ X (Mp r (some (i, k :: vis)) l :: R)) (hm : (k, v) ∈ l) (hK : K (.tuple #[encK k, v]) σ) : kGen P .ent [.pointer (some ⟨i, 0, none⟩)] σ K := by
  obtain ⟨F, ⟨es, clk, rfl, h2, h3, h5, h6, seen, h7, h8, h9, h10⟩, _⟩ := h.s
  intro w hw
  have hh : w.heap[r]? = some (mapO es clk) := hw.m r _ h3
  have hi : w.heap[i]? = some (.mapIter (some r) clk seen clk) := hw.m i _ h7
  obtain ⟨e, he, heq⟩ := List.mem_map.1 hm
  have e1 : e.1 = k := congrArg Prod.fst heq
  have e2 : e.2.1 = v := congrArg Prod.snd heq
  obtain ⟨s0, rfl⟩ := h10 e he (by simp [e1])
  have hb : ((es.map enE).map (·.born)).Nodup := by
    rw [List.map_map, List.Nodup, List.pairwise_map]
    exact h2.born.imp (fun hab he => by simp [enE] at he; omega)
  have := run_entry_at (P := P) w i r clk s0 _ clk (enE e) hi hh (by simp; exact ⟨e.1, e.2.1, e.2.2, he, rfl⟩) hb
  refine ⟨_, w, this, Out.same hw ?_⟩
  rw [← e1, ← e2] at hK
  exact hK
theorem Mp.over [KeyT κ] (h : Hs σ X (Mp r (some (i, vis)) l :: R)) : Hs σ X (Mp r none l :: R) := by
  obtain ⟨F, ⟨es, clk, rfl, h2, h3, h5, h6, _⟩, hk⟩ := h.turn
  exact hk (F' := [r]) (Chg.refl _ _) ⟨es, clk, rfl, h2, h3, rfl⟩ (fun g hg => .inl (by rw [h5]; simp at hg; simp [hg]))
theorem Mp.keys [KeyT κ] (h : Hs σ X (Mp r it l :: R)) : l.Pairwise (fun a b => a.1 ≠ b.1) := by
  obtain ⟨F, ⟨es, clk, rfl, h2, _⟩, _⟩ := h.s
  exact h2.keysV
theorem Hs.newMap [KeyT κ] (h : Hs σ X R) : Hs (σ.new (.other (.map #[] 0))) X (Mp (κ := κ) σ.n none [] :: R) :=
  h.more ((Chg.refl _ _).new _) ⟨[], 0, rfl, ⟨by simp, by simp, by simp⟩, new_eq_, rfl⟩ (by simp)
end
end Go.Proofs.YtmgdkoidgoihfaaGreatDoor.E
