/- Processes: their table in memory, what its calls do to it. Conditions: as each theorem says. -/
import Derived.Test.YtkponloccimdlaaG1
import Derived.Test.YtkponloccimdlaaC
namespace Go.Proofs.Ytkponloccimdlaa
open E Go.Lib
set_option linter.unusedVariables false
set_option linter.unusedSimpArgs false
set_option maxHeartbeats 1000000
set_option maxRecDepth 20000

/-- A process: its state, its parent, its status. -/
structure Pr where
  st : Int
  par : Int
  sta : Int
abbrev Tl := List (Int × Nat × Pr)
namespace PT
abbrev pp (q : Nat) : Value := .pointer (some ⟨q, 0, none⟩)
def ptrs (l : Tl) : List (Int × Value) := l.map fun e => (e.1, pp e.2.1)
abbrev prC (c : Pr) : List Value := [.int .i64 c.st, .int .i64 c.par, .int .i64 c.sta]
def objP (l : Tl) : List (Nat × List Value) := l.map fun e => (e.2.1, prC e.2.2)
def pv : Option (Nat × Pr) → Value
  | some e => pp e.1
  | none => .pointer none
def livesP (l : Tl) (i : Int) : Bool := match l.lookup i with | some e => decide (e.2.st ≠ 3) | none => false
def updP (l : Tl) (i : Int) (f : Pr → Pr) : Tl := l.map fun e => if e.1 = i then (e.1, e.2.1, f e.2.2) else e
def remP (l : Tl) (i : Int) : Tl := l.filter fun e => decide (e.1 ≠ i)
def turnP (l : Tl) (i s : Int) : Tl := if livesP l i then updP l i (fun c => ⟨s, c.par, c.sta⟩) else l
def leaveP (l : Tl) (i par : Int) : Tl := if par = 0 then remP l i else turnP (updP l i (fun c => ⟨c.st, par, c.sta⟩)) par 1
/-- The list's keys, its blocks: each once. -/
def Nd (l : Tl) : Prop := l.Pairwise (fun a b => a.1 ≠ b.1) ∧ l.Pairwise (fun a b => a.2.1 ≠ b.2.1)
theorem ptrs_lookup (l : Tl) (i : Int) : ((ptrs l).lookup i).getD (.pointer none) = pv (l.lookup i) := by
  induction l with
  | nil => rfl
  | cons e l ih =>
    simp only [ptrs, List.map_cons] at ih ⊢
    rw [List.lookup_cons, List.lookup_cons]
    split
    · rfl
    · exact ih
theorem lookup_mem {l : Tl} {i : Int} {x : Nat × Pr} (h : l.lookup i = some x) : (i, x) ∈ l := by
  induction l with
  | nil => cases h
  | cons e l ih =>
    rw [List.lookup_cons] at h
    split at h
    · rename_i he
      obtain rfl : i = e.1 := by simpa using he
      injection h with h
      subst h
      simp
    · exact List.mem_cons_of_mem _ (ih h)
theorem mem_lookup {l : Tl} {i : Int} {x : Nat × Pr} (hk : l.Pairwise (fun a b => a.1 ≠ b.1)) (h : (i, x) ∈ l) : l.lookup i = some x := by
  induction l with
  | nil => cases h
  | cons e l ih =>
    rw [List.pairwise_cons] at hk
    rw [List.lookup_cons]
    rcases List.mem_cons.1 h with rfl | h
    · simp
    · have : (i == e.1) = false := by simp; exact fun he => hk.1 _ h he.symm
      rw [this]
      exact ih hk.2 h
theorem lookup_map (l : Tl) (i : Int) (f : Int × Nat × Pr → Nat × Pr) : (l.map fun e => (e.1, f e)).lookup i = (l.lookup i).map fun x => f (i, x) := by
  induction l with
  | nil => rfl
  | cons e l ih =>
    rw [List.map_cons, List.lookup_cons, List.lookup_cons]
    split
    · rename_i h
      obtain rfl : i = e.1 := by simpa using h
      rfl
    · exact ih
theorem upd_eq (l : Tl) (i : Int) (f : Pr → Pr) : updP l i f = l.map fun e => (e.1, if e.1 = i then (e.2.1, f e.2.2) else e.2) := by
  unfold updP
  refine List.map_congr_left (fun e _ => ?_)
  split <;> rfl
theorem upd_lookup (l : Tl) (i j : Int) (f : Pr → Pr) : (updP l i f).lookup j = if j = i then (l.lookup i).map (fun x => (x.1, f x.2)) else l.lookup j := by
  rw [upd_eq, lookup_map]
  split
  · rename_i h
    subst h
    cases l.lookup j <;> simp
  · rename_i h
    cases l.lookup j <;> simp [h]
theorem ptrs_upd (l : Tl) (i : Int) (f : Pr → Pr) : ptrs (updP l i f) = ptrs l := by
  unfold ptrs updP
  rw [List.map_map]
  refine List.map_congr_left (fun e _ => ?_)
  simp only [Function.comp]
  split <;> rfl
theorem objs_upd {l : Tl} (h : Nd l) {i : Int} {q : Nat} {c : Pr} (hm : (i, q, c) ∈ l) (f : Pr → Pr) : updO (objP l) q (prC (f c)) = objP (updP l i f) := by
  unfold updO objP updP
  rw [List.map_map, List.map_map]
  refine List.map_congr_left (fun e he => ?_)
  simp only [Function.comp]
  by_cases h1 : e.1 = i
  · have : e = (i, q, c) := by
      obtain ⟨x, hx, rfl⟩ := List.getElem_of_mem he
      obtain ⟨y, hy, hy2⟩ := List.getElem_of_mem hm
      have hk := h.1
      rw [List.pairwise_iff_getElem] at hk
      rcases Nat.lt_trichotomy x y with hlt | rfl | hlt
      · have := hk x y hx hy hlt; rw [hy2] at this; exact absurd h1 this
      · exact hy2
      · have := hk y x hy hx hlt; rw [hy2] at this; exact absurd h1.symm this
    subst this
    simp
  · have : e.2.1 ≠ q := by
      obtain ⟨x, hx, rfl⟩ := List.getElem_of_mem he
      obtain ⟨y, hy, hy2⟩ := List.getElem_of_mem hm
      have hk := h.2
      rw [List.pairwise_iff_getElem] at hk
      rcases Nat.lt_trichotomy x y with hlt | rfl | hlt
      · have := hk x y hx hy hlt; rw [hy2] at this; exact this
      · rw [hy2] at h1; exact absurd rfl h1
      · have := hk y x hy hx hlt; rw [hy2] at this; exact this.symm
    rw [if_neg this, if_neg h1]
theorem nd_map (l : Tl) (f : Int × Nat × Pr → Pr) (h : Nd l) : Nd (l.map fun e => (e.1, e.2.1, f e)) := by
  obtain ⟨h1, h2⟩ := h
  exact ⟨List.pairwise_map.2 h1, List.pairwise_map.2 h2⟩
theorem nd_upd {l : Tl} (h : Nd l) (i : Int) (f : Pr → Pr) : Nd (updP l i f) := by
  have e : updP l i f = l.map fun e => (e.1, e.2.1, if e.1 = i then f e.2.2 else e.2.2) := by
    unfold updP
    refine List.map_congr_left (fun e _ => ?_)
    split <;> rfl
  rw [e]
  exact nd_map l _ h
theorem nd_rem {l : Tl} (h : Nd l) (i : Int) : Nd (remP l i) := ⟨h.1.filter _, h.2.filter _⟩
theorem nd_turn {l : Tl} (h : Nd l) (i s : Int) : Nd (turnP l i s) := by
  unfold turnP
  split
  · exact nd_upd h _ _
  · exact h
theorem del_ptrs (l : Tl) (i : Int) : del (ptrs l) i = ptrs (remP l i) := by
  unfold del ptrs remP
  rw [List.filter_map]
  rfl
theorem objs_rem {l : Tl} (h : Nd l) (i : Int) : ∃ f : Nat × List Value → Bool, (objP l).filter f = objP (remP l i) := by
  refine ⟨fun x => decide (x.1 ∉ (l.filter fun e => decide (e.1 = i)).map fun e => e.2.1), ?_⟩
  unfold objP remP
  rw [List.filter_map]
  congr 1
  refine List.filter_congr (fun e he => ?_)
  simp only [Function.comp, decide_eq_decide, List.mem_map, List.mem_filter, decide_eq_true_eq, not_exists, not_and, and_imp]
  constructor
  · intro hn hi
    exact hn e he hi rfl
  · intro hne x hx hxi hb
    have hk := h.2
    obtain ⟨a, ha, rfl⟩ := List.getElem_of_mem he
    obtain ⟨b, hbb, rfl⟩ := List.getElem_of_mem hx
    rw [List.pairwise_iff_getElem] at hk
    rcases Nat.lt_trichotomy a b with hlt | rfl | hlt
    · exact hk a b ha hbb hlt hb.symm
    · exact hne hxi
    · exact hk b a hbb ha hlt hb
end PT
open PT
/-- The table's things. -/
abbrev TH (t r : Nat) (most : Int) (it : Option (Nat × List Int)) (l : Tl) (R : List Ck) : List Ck := Cel t [.int .i64 most, .map (some r)] :: Mp r it (ptrs l) :: Objs (objP l) :: R
section
variable {σ σ' : AS} {X : Ce} {R : List Ck} {k : Value → AS → Prop} {t r : Nat} {most pid : Int} {it : Option (Nat × List Int)} {l : Tl}
theorem E.Hs.tnd (h : Hs σ X (TH t r most it l R)) : Nd l := by
  have h1 := Mp.keys h.drop
  have h2 := h.drop.drop.objsN
  refine ⟨?_, ?_⟩
  · unfold ptrs at h1
    rw [List.pairwise_map] at h1
    exact h1
  · unfold objP at h2
    rw [List.map_map, List.Nodup, List.pairwise_map] at h2
    exact h2
theorem E.Hs.tcell (h : Hs σ X (TH t r most it l R)) {q : Nat} {c : Pr} {i : Int} (hm : (i, q, c) ∈ l) : σ.m q = some (.cells (prC c)) :=
  h.drop.drop.objs (List.mem_map.2 ⟨_, hm, rfl⟩)
theorem E.Hs.tset (h : Hs σ X (TH t r most it l R)) {q : Nat} {c : Pr} {i : Int} (hm : (i, q, c) ∈ l) (f : Pr → Pr) : Hs (σ.put q (.cells (prC (f c)))) X (TH t r most it (updP l i f) R) := by
  have h1 := (h.rot2.putO (cs' := prC (f c)) (List.mem_map.2 ⟨_, hm, rfl⟩)).un2
  rw [objs_upd h.tnd hm] at h1
  rw [← ptrs_upd l i f] at h1
  exact h1
theorem zero_ptr (w : World) : (zeroValue 63).run Try.prog w = .ok (.pointer none) w := by kernel_rfl
/-- What the map has for a process. -/
theorem tlk (h : Hs σ X (TH t r most it l R)) (hk : k (pv (l.lookup pid)) σ) : kGen Try.prog (.lk 54 false) [.map (some r), .int .i64 pid] σ k := by
  refine lk_by (κ := Int) h.swap Try.underlying54 Try.underlying3 zero_ptr ?_
  rw [ptrs_lookup]
  exact hk
theorem lives_c (h : Hs σ X (TH t r most it l R)) (hk : k (.bool (livesP l pid)) σ) : kCall Try.prog 33 [pv (l.lookup pid)] σ k := by
  refine f33 ?_
  unfold livesP at hk
  cases hl : l.lookup pid with
  | none =>
    rw [hl] at hk
    (try simp (maxSteps := 1000000) (dsimp := false) (disch := (first | omega | (simp only [okR]; done) | (simp only [sizeR] <;> omega) | fail)) only [↓preR, postR, ↓w_join, Nat.reduceEqDiff, Nat.reduceAdd, Nat.reduceSub, Nat.reduceMul, Int.reduceNeg, Nat.reduceLT, Int.reduceToNat, Nat.reduceLeDiff, Nat.sub_zero, F33, pv])
    exact hk
  | some e =>
    rw [hl] at hk
    obtain ⟨q, c⟩ := e
    have hc := h.tcell (lookup_mem hl)
    (try simp (maxSteps := 1000000) (dsimp := false) (disch := (first | omega | (simp only [okR]; done) | (simp only [sizeR] <;> omega) | fail)) only [↓preR, postR, ↓w_join, Nat.reduceEqDiff, Nat.reduceAdd, Nat.reduceSub, Nat.reduceMul, Int.reduceNeg, Nat.reduceLT, Int.reduceToNat, Nat.reduceLeDiff, Nat.sub_zero, F33, pv, pp, hc, prC])
    simpa using hk
theorem alive_c (h : Hs σ X (TH t r most it l R)) (hk : livesP l pid = true → k (.tuple #[pv (l.lookup pid), .int .i64 0]) σ) (hn : livesP l pid = false → k (.tuple #[.pointer none, .int .i64 23]) σ) :
    kCall Try.prog 31 [pp t, .int .i64 pid] σ k := by
  refine f31 ?_
  (simp (maxSteps := 1000000) (dsimp := false) (disch := (first | omega | (simp only [okR]; done) | (simp only [sizeR] <;> omega) | fail)) only [↓preR, postR, ↓w_join, Nat.reduceEqDiff, Nat.reduceAdd, Nat.reduceSub, Nat.reduceMul, Int.reduceNeg, Nat.reduceLT, Int.reduceToNat, Nat.reduceLeDiff, Nat.sub_zero, F31, pp, h.obj])
  refine tlk h ?_
  (try simp (maxSteps := 1000000) (dsimp := false) (disch := (first | omega | (simp only [okR]; done) | (simp only [sizeR] <;> omega) | fail)) only [↓preR, postR, ↓w_join, Nat.reduceEqDiff, Nat.reduceAdd, Nat.reduceSub, Nat.reduceMul, Int.reduceNeg, Nat.reduceLT, Int.reduceToNat, Nat.reduceLeDiff, Nat.sub_zero])
  refine lives_c h ?_
  cases hl : livesP l pid
  · (try simp (maxSteps := 1000000) (dsimp := false) (disch := (first | omega | (simp only [okR]; done) | (simp only [sizeR] <;> omega) | fail)) only [↓preR, postR, ↓w_join, Nat.reduceEqDiff, Nat.reduceAdd, Nat.reduceSub, Nat.reduceMul, Int.reduceNeg, Nat.reduceLT, Int.reduceToNat, Nat.reduceLeDiff, Nat.sub_zero])
    exact hn hl
  · (simp (maxSteps := 1000000) (dsimp := false) (disch := (first | omega | (simp only [okR]; done) | (simp only [sizeR] <;> omega) | fail)) only [↓preR, postR, ↓w_join, Nat.reduceEqDiff, Nat.reduceAdd, Nat.reduceSub, Nat.reduceMul, Int.reduceNeg, Nat.reduceLT, Int.reduceToNat, Nat.reduceLeDiff, Nat.sub_zero, h.obj])
    refine tlk h ?_
    (try simp (maxSteps := 1000000) (dsimp := false) (disch := (first | omega | (simp only [okR]; done) | (simp only [sizeR] <;> omega) | fail)) only [↓preR, postR, ↓w_join, Nat.reduceEqDiff, Nat.reduceAdd, Nat.reduceSub, Nat.reduceMul, Int.reduceNeg, Nat.reduceLT, Int.reduceToNat, Nat.reduceLeDiff, Nat.sub_zero])
    exact hk hl
theorem turn_c (s : Int) (h : Hs σ X (TH t r most it l R)) (hk : ∀ σ', Hs σ' X (TH t r most it (turnP l pid s) R) → k (.int .i64 (if livesP l pid then 0 else 23)) σ') :
    kCall Try.prog 32 [pp t, .int .i64 pid, .int .i64 s] σ k := by
  refine f32 ?_
  (try simp (maxSteps := 1000000) (dsimp := false) (disch := (first | omega | (simp only [okR]; done) | (simp only [sizeR] <;> omega) | fail)) only [↓preR, postR, ↓w_join, Nat.reduceEqDiff, Nat.reduceAdd, Nat.reduceSub, Nat.reduceMul, Int.reduceNeg, Nat.reduceLT, Int.reduceToNat, Nat.reduceLeDiff, Nat.sub_zero, F32])
  unfold turnP at hk
  refine alive_c h (fun hl => ?_) (fun hl => ?_)
  rotate_left
  · rw [hl] at hk
    (try simp (maxSteps := 1000000) (dsimp := false) (disch := (first | omega | (simp only [okR]; done) | (simp only [sizeR] <;> omega) | fail)) only [↓preR, postR, ↓w_join, Nat.reduceEqDiff, Nat.reduceAdd, Nat.reduceSub, Nat.reduceMul, Int.reduceNeg, Nat.reduceLT, Int.reduceToNat, Nat.reduceLeDiff, Nat.sub_zero])
    exact hk _ h
  · rw [hl] at hk
    unfold livesP at hl
    cases hlk : l.lookup pid with
    | none => rw [hlk] at hl; cases hl
    | some e =>
      obtain ⟨q, c⟩ := e
      have hm := lookup_mem hlk
      have hc := h.tcell hm
      unfold prC at hc
      (try simp (maxSteps := 1000000) (dsimp := false) (disch := (first | omega | (simp only [okR]; done) | (simp only [sizeR] <;> omega) | fail)) only [↓preR, postR, ↓w_join, Nat.reduceEqDiff, Nat.reduceAdd, Nat.reduceSub, Nat.reduceMul, Int.reduceNeg, Nat.reduceLT, Int.reduceToNat, Nat.reduceLeDiff, Nat.sub_zero, pv, pp, hc])
      exact hk _ (h.tset hm (fun c => ⟨s, c.par, c.sta⟩))
theorem wake_c (h : Hs σ X (TH t r most it l R)) (hk : ∀ σ', Hs σ' X (TH t r most it (turnP l pid 1) R) → k (.int .i64 (if livesP l pid then 0 else 23)) σ') :
    kCall Try.prog 23 [pp t, .int .i64 pid] σ k := by
  refine f23 ?_
  (try simp (maxSteps := 1000000) (dsimp := false) (disch := (first | omega | (simp only [okR]; done) | (simp only [sizeR] <;> omega) | fail)) only [↓preR, postR, ↓w_join, Nat.reduceEqDiff, Nat.reduceAdd, Nat.reduceSub, Nat.reduceMul, Int.reduceNeg, Nat.reduceLT, Int.reduceToNat, Nat.reduceLeDiff, Nat.sub_zero, F23])
  refine turn_c 1 h fun σ' h' => ?_
  (try simp (maxSteps := 1000000) (dsimp := false) (disch := (first | omega | (simp only [okR]; done) | (simp only [sizeR] <;> omega) | fail)) only [↓preR, postR, ↓w_join, Nat.reduceEqDiff, Nat.reduceAdd, Nat.reduceSub, Nat.reduceMul, Int.reduceNeg, Nat.reduceLT, Int.reduceToNat, Nat.reduceLeDiff, Nat.sub_zero])
  exact hk _ h'
theorem block_c (h : Hs σ X (TH t r most it l R)) (hk : ∀ σ', Hs σ' X (TH t r most it (turnP l pid 2) R) → k (.int .i64 (if livesP l pid then 0 else 23)) σ') :
    kCall Try.prog 22 [pp t, .int .i64 pid] σ k := by
  refine f22 ?_
  (try simp (maxSteps := 1000000) (dsimp := false) (disch := (first | omega | (simp only [okR]; done) | (simp only [sizeR] <;> omega) | fail)) only [↓preR, postR, ↓w_join, Nat.reduceEqDiff, Nat.reduceAdd, Nat.reduceSub, Nat.reduceMul, Int.reduceNeg, Nat.reduceLT, Int.reduceToNat, Nat.reduceLeDiff, Nat.sub_zero, F22])
  refine turn_c 2 h fun σ' h' => ?_
  (try simp (maxSteps := 1000000) (dsimp := false) (disch := (first | omega | (simp only [okR]; done) | (simp only [sizeR] <;> omega) | fail)) only [↓preR, postR, ↓w_join, Nat.reduceEqDiff, Nat.reduceAdd, Nat.reduceSub, Nat.reduceMul, Int.reduceNeg, Nat.reduceLT, Int.reduceToNat, Nat.reduceLeDiff, Nat.sub_zero])
  exact hk _ h'
theorem leave_c {par : Int} (h : Hs σ X (TH t r most it l R)) (hp : par ≠ 0 → (l.lookup pid).isSome) (hk : ∀ σ', Hs σ' X (TH t r most it (leaveP l pid par) R) → k undef σ') :
    kCall Try.prog 34 [pp t, .int .i64 pid, .int .i64 par] σ k := by
  refine f34 ?_
  unfold leaveP at hk
  by_cases h0 : par = 0
  · subst h0
    rw [if_pos rfl] at hk
    (try simp (maxSteps := 1000000) (dsimp := false) (disch := (first | omega | (simp only [okR]; done) | (simp only [sizeR] <;> omega) | fail)) only [↓preR, postR, ↓w_join, Nat.reduceEqDiff, Nat.reduceAdd, Nat.reduceSub, Nat.reduceMul, Int.reduceNeg, Nat.reduceLT, Int.reduceToNat, Nat.reduceLeDiff, Nat.sub_zero, F34, pp, h.obj])
    refine del_by (κ := Int) h.swap Try.underlying54 Try.underlying3 fun σ1 h1 => ?_
    (try simp (maxSteps := 1000000) (dsimp := false) (disch := (first | omega | (simp only [okR]; done) | (simp only [sizeR] <;> omega) | fail)) only [↓preR, postR, ↓w_join, Nat.reduceEqDiff, Nat.reduceAdd, Nat.reduceSub, Nat.reduceMul, Int.reduceNeg, Nat.reduceLT, Int.reduceToNat, Nat.reduceLeDiff, Nat.sub_zero])
    refine hk _ ?_
    rw [del_ptrs] at h1
    obtain ⟨f, hf⟩ := objs_rem h.tnd pid
    have h2 := (h1.swap.rot2.fewerO f).un2
    rw [hf] at h2
    exact h2
  · rw [if_neg h0] at hk
    obtain ⟨⟨q, c⟩, hlk⟩ := Option.isSome_iff_exists.1 (hp h0)
    have hm := lookup_mem hlk
    have hc := h.tcell hm
    unfold prC at hc
    (simp (maxSteps := 1000000) (dsimp := false) (disch := (first | omega | (simp only [okR]; done) | (simp only [sizeR] <;> omega) | fail)) only [↓preR, postR, ↓w_join, Nat.reduceEqDiff, Nat.reduceAdd, Nat.reduceSub, Nat.reduceMul, Int.reduceNeg, Nat.reduceLT, Int.reduceToNat, Nat.reduceLeDiff, Nat.sub_zero, F34, pp, h.obj])
    refine tlk h ?_
    rw [hlk]
    (try simp (maxSteps := 1000000) (dsimp := false) (disch := (first | omega | (simp only [okR]; done) | (simp only [sizeR] <;> omega) | fail)) only [↓preR, postR, ↓w_join, Nat.reduceEqDiff, Nat.reduceAdd, Nat.reduceSub, Nat.reduceMul, Int.reduceNeg, Nat.reduceLT, Int.reduceToNat, Nat.reduceLeDiff, Nat.sub_zero, pv, pp, hc])
    refine wake_c (h.tset hm (fun c => ⟨c.st, par, c.sta⟩)) fun σ' h' => ?_
    (try simp (maxSteps := 1000000) (dsimp := false) (disch := (first | omega | (simp only [okR]; done) | (simp only [sizeR] <;> omega) | fail)) only [↓preR, postR, ↓w_join, Nat.reduceEqDiff, Nat.reduceAdd, Nat.reduceSub, Nat.reduceMul, Int.reduceNeg, Nat.reduceLT, Int.reduceToNat, Nat.reduceLeDiff, Nat.sub_zero])
    exact hk _ h'
end
end Go.Proofs.Ytkponloccimdlaa
