/- Variables in order: the sort, over states. Conditions: none. -/
import Derived.Test.YtkpnackmijjciaaGreatDoorVaK
import Derived.Test.YtkpnackmijjciaaGreatDoorFt
import Derived.Test.YtkpnackmijjciaaGreatDoorRng
namespace Go.Proofs.YtkpnackmijjciaaGreatDoor
open E Go.Lib
open Go.Shelf Go.RowKit Go.Sort
set_option linter.unusedVariables false
set_option linter.unusedSimpArgs false
set_option maxHeartbeats 1000000
set_option maxRecDepth 20000

theorem flatK_flat {enc : Str → List Value} {z : Nat} (hf : ∀ x, (enc x).length = z) (hz : 0 < z) (d : List Str) : (flatK enc z d.toArray).toList = flat enc d [] := by
  apply List.ext_getElem?
  intro t
  have hl : (flat enc d []).length = d.length * z := by rw [flat_len hf]; simp
  by_cases ht : t < d.length * z
  · have hi : t / z < d.length := Nat.div_lt_of_lt_mul (by rw [Nat.mul_comm]; exact ht)
    have h1 := flat_get (sp := []) hf (List.getElem?_eq_getElem hi) (Nat.mod_lt t hz)
    have e : t / z * z + t % z = t := by rw [Nat.mul_comm]; exact Nat.div_add_mod t z
    rw [e] at h1
    rw [h1]
    have h2 : t < (flatK enc z d.toArray).size := by rw [size_flatK]; simpa using ht
    have h3 := get_flatK enc z d.toArray t (by simpa using ht)
    rw [Array.getElem?_toList, Array.getElem?_eq_getElem h2]
    rw [getElem!_pos _ t h2] at h3
    rw [h3, getElem!_pos _ (t / z) (by simpa using hi), getElem!_pos _ (t % z) (by rw [hf]; exact Nat.mod_lt t hz)]
    simp [hf, Nat.mod_lt t hz]
  · rw [List.getElem?_eq_none (by rw [Array.length_toList, size_flatK]; simp; omega), List.getElem?_eq_none (by rw [hl]; omega)]
theorem putRow_put {w : World} {g : Nat} {cs : List Value} (hb : blk w g = some cs) (F : Array Value) (hF : F.size ≤ cs.length) : putRow id w g 0 F = E.put w g (F.toList ++ cs.drop F.size) := by
  obtain ⟨t, ht⟩ := blk_some hb
  have hlt := (Array.getElem?_eq_some_iff.1 ht).1
  unfold putRow mapBlock E.put
  congr 1
  apply Array.ext_getElem?
  intro i
  rw [Array.getElem?_modify, Array.getElem?_setIfInBounds]
  by_cases hi : g = i
  · subst hi
    rw [if_pos rfl, if_pos rfl, if_pos hlt, ht]
    have ety : tyOf w g = t := by unfold tyOf; rw [ht]
    rw [ety]
    simp only [Option.map_some, onCells]
    congr 2
    apply Array.ext_getElem?
    intro j
    unfold putCells
    rw [Array.getElem?_mapIdx]
    by_cases hj : j < F.size
    · have hj2 : j < cs.length := by omega
      simp [hj2, hj]
      rw [List.getElem?_append_left (by simpa using hj)]
      simp [hj]
    · simp [hj]
      by_cases hj2 : j < cs.length
      · rw [List.getElem?_append_right (by simp; omega)]
        simp [hj2]
        rw [show F.size + (j - F.size) = j from by omega]
        simp [hj2]
      · rw [List.getElem?_eq_none (by omega), List.getElem?_eq_none (by simp; omega)]
  · rw [if_neg hi, if_neg hi]
section
variable {σ σ' : AS} {X : Ce} {R : List Ck} {k : Value → AS → Prop} {g cap : Nat} {sp : List Value} {l : VL} {d : List Str}
abbrev encS (l : VL) (n : Str) : List Value := celV n (getV l n)
theorem encS_len (n : Str) : (encS l n).length = 5 := rfl
abbrev sortS (d : List Str) : List Str := d.mergeSort fun x y => !ltOf cfS y x
theorem cmpS (blk off size : Nat) (w : World) : CmpLays Tryz.prog 49 #[] (encS l) 5 cfS blk off size w := fun _ _ _ _ x y => by
  have h := Srt.closure (bs x) (bs y) (bs (getV l x).val) (bs (getV l y).val) (getV l x).set (getV l x).exp (getV l x).ro (getV l y).set (getV l y).exp (getV l y).ro
  have e1 : (bs x).data.toList = x := by simp [bs]
  have e2 : (bs y).data.toList = y := by simp [bs]
  rw [e1, e2] at h
  exact h _
theorem sort_c (h : Hs σ X (Cel g (flat (encS l) d sp) :: R)) (hd : d.length ≤ 1000000) (hk : ∀ w σ', Hs σ' X (Cel g (flat (encS l) (sortS d) sp) :: R) → k w σ') :
    kCall Tryz.prog 66 [.slice (some ⟨g, 0, none⟩) d.length cap, .func (.func 49) #[] #[]] σ k := by
  intro w hw
  have hb : blk w g = some (flat (encS l) d sp) := hw.m g _ h.obj
  have eg : ∀ args w, (callFunc 49 args).run Tryz.prog w = .ok (.enter 49 args) w := enters_of Tryz.func49 (by kernel_rfl) rfl
  have hfl := flatK_flat (enc := encS l) (z := 5) encS_len (by decide) d
  have hH : HoldsK (encS l) 5 w g 0 d.toArray := by
    intro j hj
    rw [size_flatK] at hj
    have hj2 : j < (flat (encS l) d []).length := by rw [flat_len encS_len]; simpa using hj
    refine ⟨?_, fro hb _ _⟩
    rw [cel hb, Nat.zero_add]
    have e : (flatK (encS l) 5 d.toArray)[j]! = (flat (encS l) d [])[j] := by
      have hs : j < (flatK (encS l) 5 d.toArray).size := by rw [size_flatK]; exact hj
      rw [getElem!_pos _ j hs, ← Array.getElem_toList (h := hs)]
      simp only [hfl]
    rw [e]
    show (flat (encS l) d sp)[j]? = some _
    have e3 : flat (encS l) d sp = flat (encS l) d [] ++ sp := by unfold flat; simp
    rw [e3, List.getElem?_append_left hj2, List.getElem?_eq_getElem hj2]
    rfl
  have hcon := AnyQ.slices_SortFunc_total Tryz.sortL 5 Tryz.isAgg70 Tryz.sizeOf70 (encS l) encS_len (fun x v hv => by simp [encS] at hv; rcases hv with rfl | rfl | rfl | rfl | rfl <;> rfl) cfS swoS 49 #[] g 0 cap d.toArray w eg (cmpS _ _ _ _) hH (blk_lt hb) (by simp; omega) totS
  have esz : d.toArray.size = d.length := by simp
  rw [esz] at hcon
  refine Calls.mono hcon fun e w' ⟨he, n, os, hw'⟩ => ⟨_, he, ?_⟩
  have hb1 : blk (Go.Sort.ahead w n) g = some (flat (encS l) d sp) := hb
  have hperm : (sortS d).length = d.length := by simp [sortS]
  have e5 : putRowK (encS l) 5 (Go.Sort.ahead w n) g 0 (sortS d).toArray = E.put (Go.Sort.ahead w n) g (flat (encS l) (sortS d) sp) := by
    unfold putRowK
    rw [putRow_put hb1 _ (by rw [size_flatK, flat_len encS_len]; simp <;> omega), flatK_flat encS_len (by decide)]
    congr 1
    rw [size_flatK]
    have : (flat (encS l) d sp).drop ((sortS d).toArray.size * 5) = sp := by
      rw [List.size_toArray, hperm]
      have e3 : flat (encS l) d sp = flat (encS l) d [] ++ sp := by unfold flat; simp
      rw [e3, List.drop_left' (by rw [flat_len encS_len]; simp)]
    rw [this]
    unfold flat; simp
  have hw2 : Sat (σ.put g (.cells (flat (encS l) (sortS d) sp))) (E.put (Go.Sort.ahead w n) g (flat (encS l) (sortS d) sp)) := Sat.put (hw.drewN n) h.obj _
  have hbel : Below (E.put (Go.Sort.ahead w n) g (flat (encS l) (sortS d) sp)).heap.size (E.put (Go.Sort.ahead w n) g (flat (encS l) (sortS d) sp)) (grow (E.put (Go.Sort.ahead w n) g (flat (encS l) (sortS d) sp)) os) :=
    ⟨rfl, rfl, rfl, by simp [grow], fun k hk => by simp only [grow]; rw [Array.getElem?_append_left hk]⟩
  have ew : w' = grow (E.put (Go.Sort.ahead w n) g (flat (encS l) (sortS d) sp)) os := by
    rw [hw', ← e5]; rfl
  rw [ew]
  refine ⟨?_, _, hw2.below hbel, ?_, hk _ _ (h.put.up _)⟩
  · have hg : σ.live g := by unfold AS.live; rw [h.obj]; simp
    exact ((KeepP.drewN σ.live w n).step (KeepP.put_ (S := σ.live) hg _) (fun i h => .inl h)).step (KeepP.ofBelow (S := fun _ => False) hbel) (fun i h => h.elim)
  · exact (Fol.put σ g _).trans (Fol.up _ _)
end
end Go.Proofs.YtkpnackmijjciaaGreatDoor

/- Variables in order: what All hands back. Conditions: none. -/
namespace Go.Proofs.YtkpnackmijjciaaGreatDoor
open E Go.Lib
open Go.Shelf Go.RowKit
set_option linter.unusedVariables false
set_option linter.unusedSimpArgs false
set_option maxHeartbeats 1000000
set_option maxRecDepth 20000

abbrev FV := Str × Str × Bool × Bool × Bool
abbrev fvOf (n : Str) (x : VV) : FV := (n, x.val, x.set, x.exp, x.ro)
abbrev celF (p : FV) : List Value := [.string (bs p.1), .string (bs p.2.1), .bool p.2.2.1, .bool p.2.2.2.1, .bool p.2.2.2.2]
/-- Variables stand in a row. -/
def VarR (v : Value) (L : List FV) : Ck := ⟨fun F X σ => (v = .slice none 0 0 ∧ L = [] ∧ F = []) ∨ ∃ g cap sp, v = .slice (some ⟨g, 0, none⟩) L.length cap ∧ F = [g] ∧ σ.m g = some (.cells (flat celF L sp)) ∧ L.length ≤ cap ∧ cap ≤ maxLen,
  fun h hx hm => by
    rcases h with h | ⟨g, cap, sp, h1, h2, h3, h4⟩
    · exact .inl h
    · exact .inr ⟨g, cap, sp, h1, h2, (hm g (by rw [h2]; simp)).trans h3, h4⟩,
  fun h g hg => by
    rcases h with ⟨_, _, h⟩ | ⟨b, cap, sp, h1, h2, h3, h4⟩
    · rw [h] at hg; cases hg
    · rw [h2] at hg; simp at hg; subst hg; exact AS.lt h3⟩
def FvOk (p : FV) : Prop := p.1.length ≤ maxLen ∧ p.2.1.length ≤ maxLen
section
variable {σ σ' : AS} {X : Ce} {R : List Ck} {k : Value → AS → Prop} {v : Value} {L : List FV} {g cap : Nat} {l : VL}
theorem rp_fv {p : FV} (h : FvOk p) : Rp.rp (α := FV) X p (celF p) := ⟨[_], _, rfl, ⟨rfl, h.1⟩, [_], _, rfl, ⟨rfl, h.2⟩, [_], _, rfl, rfl, [_], _, rfl, rfl, rfl⟩
theorem rp_fv_eq {p : FV} {cs : List Value} (h : Rp.rp (α := FV) X p cs) : cs = celF p := by
  obtain ⟨c1, r1, e1, ⟨f1, b1⟩, c2, r2, e2, ⟨f2, b2⟩, c3, r3, e3, f3, c4, r4, e4, f4, f5⟩ := h
  rw [e1, e2, e3, e4, f1, f2, f3, f4, f5]; rfl
theorem rpl_fv : ∀ {L : List FV} {xs : List Value}, RpL X L xs → xs = flat celF L []
  | [], xs, h => by
    have h : xs = [] := h
    rw [h]; rfl
  | p :: L, xs, h => by
    obtain ⟨x, y, rfl, h1, h2⟩ := h
    rw [rp_fv_eq h1, rpl_fv h2]
    simp [flat]
/-- A row that was made stands. -/
theorem VarR.own (h : Hs σ X (E.Own (α := FV) v L :: R)) : Hs σ X (VarR v L :: R) := by
  obtain ⟨F, ⟨rfl, xs, h1, h2⟩, hk⟩ := h.turn
  have hx := rpl_fv h2
  rcases h1 with ⟨rfl, h0, _⟩ | ⟨g, c, sp, rfl, hm, hl, hcl, hle, hcm⟩
  · have : L = [] := List.eq_nil_of_length_eq_zero h0
    subst this
    exact hk (F' := []) (Chg.refl _ _) (.inl ⟨rfl, rfl, rfl⟩) (fun g hg => by cases hg)
  · have e : xs ++ sp = flat celF L sp := by rw [hx]; simp [flat]
    rw [e] at hm
    exact hk (F' := [g]) (Chg.refl _ _) (.inr ⟨g, c, sp, rfl, rfl, hm, hle, hcm⟩) (fun g' hg => .inl (by simpa [ownL] using hg))
theorem VarR.cel (h : Hs σ X (VarR v L :: R)) : (v = .slice none 0 0 ∧ L = [] ∧ Hs σ X R) ∨ ∃ g cap sp, v = .slice (some ⟨g, 0, none⟩) L.length cap ∧ L.length ≤ cap ∧ cap ≤ maxLen ∧ Hs σ X (Cel g (flat celF L sp) :: R) := by
  obtain ⟨F, h1, hk⟩ := h.turn
  rcases h1 with ⟨h2, h3, rfl⟩ | ⟨g, cap, sp, h2, rfl, h3, h4, h5⟩
  · exact .inl ⟨h2, h3, h.drop⟩
  · exact .inr ⟨g, cap, sp, h2, h4, h5, hk (F' := [g]) (Chg.refl _ _) ⟨rfl, h3⟩ (fun g hg => .inl hg)⟩
theorem VarR.mk {sp : List Value} (h : Hs σ X (Cel g (flat celF L sp) :: R)) (h1 : L.length ≤ cap) (h2 : cap ≤ maxLen) : Hs σ X (VarR (.slice (some ⟨g, 0, none⟩) L.length cap) L :: R) := by
  obtain ⟨F, ⟨rfl, hm⟩, hk⟩ := h.turn
  exact hk (F' := [g]) (Chg.refl _ _) (.inr ⟨g, cap, sp, rfl, rfl, hm, h1, h2⟩) (fun g hg => .inl hg)
/-- The sort of a row of variables, each as the list has it. -/
def listV (l : VL) (d : List Str) : List FV := d.map fun n => fvOf n (getV l n)
theorem flat_list (d : List Str) (sp : List Value) : flat celF (listV l d) sp = flat (encS l) d sp := by
  unfold flat listV
  rw [List.map_map]
  rfl
theorem sortR_c {d : List Str} (h : Hs σ X (VarR v (listV l d) :: R)) (hd : d.length ≤ 1000000) (hk : ∀ w σ', Hs σ' X (VarR v (listV l (sortS d)) :: R) → k w σ') :
    kCall Tryz.prog 66 [v, .func (.func 49) #[] #[]] σ k := by
  rcases VarR.cel h with ⟨rfl, h2, h3⟩ | ⟨g, cap, sp, rfl, h4, h5, h6⟩
  · have hd0 : d = [] := by simpa [listV] using h2
    subst hd0
    exact below_by (v := .tuple #[]) (fun w hw => Calls.mono (AnyF.slices_SortFunc_none Tryz.sortL none 0 _ w) fun e w' ⟨he, hw'⟩ => ⟨he, hw' ▸ Below.refl _ _⟩) (fun j => hk _ _ (by rw [show sortS [] = [] from by simp [sortS]]; exact h.up j))
  · have el : (listV l d).length = d.length := by simp [listV]
    rw [el]
    rw [flat_list] at h6
    refine sort_c h6 hd fun w σ1 h7 => ?_
    refine hk _ _ ?_
    rw [← flat_list] at h7
    have el2 : (listV l (sortS d)).length = d.length := by simp [listV, sortS]
    have := VarR.mk (cap := cap) h7 (by rw [el2]; omega) h5
    rw [el2] at this
    rw [el]
    exact this
theorem nodup_len {α : Type} [DecidableEq α] : ∀ {d e : List α}, d.Nodup → (∀ x, x ∈ d → x ∈ e) → d.length ≤ e.length
  | [], _, _, _ => Nat.zero_le _
  | a :: d, e, hn, hs => by
    have hn := List.nodup_cons.1 hn
    have ha := hs a (by simp)
    have := nodup_len (d := d) (e := e.erase a) hn.2 fun x hx => (List.mem_erase_of_ne (by intro h; subst h; exact hn.1 hx)).2 (hs x (by simp [hx]))
    rw [List.length_erase_of_mem ha] at this
    have := List.length_pos_of_mem ha
    simp; omega
theorem mem_encL {n : Str} {u : Value} (hk : (encL l).Pairwise fun a b => a.1 ≠ b.1) (hm : (n, u) ∈ encL l) : u = encV n (getV l n) ∧ n ∈ l.map (·.1) := by
  unfold encL at hm
  obtain ⟨p, hp, he⟩ := List.mem_map.1 hm
  injection he with e1 e2
  subst e1
  have h1 := lookup_some (κ := Str) hk (List.mem_map.2 ⟨p, hp, rfl⟩ : (p.1, encV p.1 p.2) ∈ encL l)
  have h2 : (lkV l p.1).map (encV p.1) = some (encV p.1 p.2) := (lookup_encL l p.1).symm.trans h1
  refine ⟨?_, List.mem_map.2 ⟨p, hp, rfl⟩⟩
  rw [← e2]
  unfold getV
  cases hx : lkV l p.1 with
  | none => rw [hx] at h2; cases h2
  | some x =>
    rw [hx] at h2
    exact (Option.some.inj h2).symm
theorem keys_nodup (hk : (encL l).Pairwise fun a b => a.1 ≠ b.1) : (l.map (·.1)).Nodup := by
  unfold encL at hk
  rw [List.pairwise_map] at hk
  unfold List.Nodup
  rw [List.pairwise_map]
  exact hk
def VlOk (l : VL) : Prop := ∀ n, n ∈ l.map (·.1) → FvOk (fvOf n (getV l n))
theorem iterV_c {Y : List FV → Ck} {lid m1 m : Nat} (hok : VlOk l) (h : Hs σ X (Y [] :: Cel m1 [.map (some m)] :: Mp (κ := Str) m none (encL l) :: R))
    (hy : ∀ σ1 R1 pre p k1, Hs σ1 X (Y pre :: R1) → FvOk p → pre.length < l.length → (∀ σ2, Hs σ2 X (Y (pre ++ [p]) :: R1) → k1 (.bool true) σ2) → kYld Tryz.prog lid [.agg (celF p).toArray] σ1 k1)
    (hk : ∀ σ' d, d.Perm (l.map (·.1)) → Hs σ' X (Y (listV l d) :: Cel m1 [.map (some m)] :: Mp (κ := Str) m none (encL l) :: R) → k undef σ') :
    kCall Tryz.prog 67 [.func (.yield lid) #[] #[], .pointer (some ⟨m1, 0, none⟩)] σ k := by
  refine f67 ?_
  have hkeys := Mp.keys (κ := Str) (h.front 2 rfl)
  (try simp (maxSteps := 1000000) (dsimp := false) (disch := (first | omega | (simp only [okR]; done) | (simp only [sizeR] <;> omega) | fail)) only [↓preR, postR, ↓w_stop, Nat.reduceEqDiff, Nat.reduceAdd, Nat.reduceSub, Nat.reduceMul, Int.reduceNeg, Nat.reduceLT, Int.reduceToNat, Nat.reduceLeDiff, Nat.sub_zero, F67, h.obj1])
  refine rng_by (κ := Str) (h.front 2 rfl) Tryz.underlying59 fun σ1 h1 => ?_
  have h2 : Hs σ1 X (Mp (κ := Str) m (some (σ.n, [])) (encL l) :: Y (listV l []) :: Cel m1 [.map (some m)] :: R) := h1
  refine loop_inv (fun nn xs s => ∃ d : List Str, xs = [] ∧ d.Nodup ∧ (∀ n, n ∈ d → n ∈ l.map (·.1)) ∧
    Hs s X (Mp (κ := Str) m (some (σ.n, d.reverse)) (encL l) :: Y (listV l d) :: Cel m1 [.map (some m)] :: R) ∧ nn = l.length - d.length) _ ⟨[], rfl, by simp, by simp, h2, rfl⟩ ?_
  rintro _ _ s2 again ⟨d, rfl, hnd, hsub, h3, rfl⟩ hag
  refine nxt_by (κ := Str) h3 (fun hall => ?_) (fun n u s3 hmem hnv h4 => ?_)
  · (try simp (maxSteps := 1000000) (dsimp := false) (disch := (first | omega | (simp only [okR]; done) | (simp only [sizeR] <;> omega) | fail)) only [↓preR, postR, ↓w_join, Nat.reduceEqDiff, Nat.reduceAdd, Nat.reduceSub, Nat.reduceMul, Int.reduceNeg, Nat.reduceLT, Int.reduceToNat, Nat.reduceLeDiff, Nat.sub_zero])
    have hp : d.Perm (l.map (·.1)) := by
      refine (List.perm_ext_iff_of_nodup hnd (keys_nodup hkeys)).2 fun n => ⟨hsub n, fun hn => ?_⟩
      obtain ⟨p, hp, rfl⟩ := List.mem_map.1 hn
      have := hall (p.1, encV p.1 p.2) (List.mem_map.2 ⟨p, hp, rfl⟩)
      simpa using this
    have h5 : Hs s2 X (Mp (κ := Str) m none (encL l) :: Y (listV l d) :: Cel m1 [.map (some m)] :: R) := Mp.over h3
    exact hk _ d hp (h5.rot2.rot2)
  · obtain ⟨eu, hin⟩ := mem_encL hkeys hmem
    subst eu
    have hnd2 : n ∉ d := by simpa using hnv
    have hnd3 : (d ++ [n]).Nodup := by
      rw [List.nodup_append]
      refine ⟨hnd, by simp, ?_⟩
      intro a ha b hb e
      simp at hb
      subst hb
      subst e
      exact hnd2 ha
    have hsub3 : ∀ x, x ∈ d ++ [n] → x ∈ l.map (·.1) := fun x hx => by
      rcases List.mem_append.1 hx with hx | hx
      · exact hsub x hx
      · simp at hx; subst hx; exact hin
    have hlen := nodup_len hnd3 hsub3
    simp at hlen
    (simp (maxSteps := 1000000) (dsimp := false) (disch := (first | omega | (simp only [okR]; done) | (simp only [sizeR] <;> omega) | fail)) only [↓preR, postR, ↓w_join, Nat.reduceEqDiff, Nat.reduceAdd, Nat.reduceSub, Nat.reduceMul, Int.reduceNeg, Nat.reduceLT, Int.reduceToNat, Nat.reduceLeDiff, Nat.sub_zero])
    refine ent_by (κ := Str) h4 hmem ?_
    have h5 := h4.new (cs := celV [] z0)
    (simp (maxSteps := 1000000) (dsimp := false) (disch := (first | omega | (simp only [okR]; done) | (simp only [sizeR] <;> omega) | fail)) only [↓preR, postR, ↓w_join, Nat.reduceEqDiff, Nat.reduceAdd, Nat.reduceSub, Nat.reduceMul, Int.reduceNeg, Nat.reduceLT, Int.reduceToNat, Nat.reduceLeDiff, Nat.sub_zero])
    refine yld_by (hy _ (Cel s3.n (celV n (getV l n)) :: Mp (κ := Str) m (some (σ.n, n :: d.reverse)) (encL l) :: Cel m1 [.map (some m)] :: R) (listV l d) (fvOf n (getV l n)) _ ?_ (hok n hin) (by simp [listV]; omega) fun s4 h6 => ?_)
    · exact (h5.put (cs' := celV n (getV l n))).rot2
    · (simp (maxSteps := 1000000) (dsimp := false) (disch := (first | omega | (simp only [okR]; done) | (simp only [sizeR] <;> omega) | fail)) only [↓preR, postR, ↓w_join, Nat.reduceEqDiff, Nat.reduceAdd, Nat.reduceSub, Nat.reduceMul, Int.reduceNeg, Nat.reduceLT, Int.reduceToNat, Nat.reduceLeDiff, Nat.sub_zero])
      have h7 : Hs s4 X (Mp (κ := Str) m (some (σ.n, (d ++ [n]).reverse)) (encL l) :: Y (listV l (d ++ [n])) :: Cel m1 [.map (some m)] :: R) := by
        have e1 : (d ++ [n]).reverse = n :: d.reverse := by simp
        have e2 : listV l (d ++ [n]) = listV l d ++ [fvOf n (getV l n)] := by simp [listV]
        rw [e1, e2]
        exact ((h6.front 1 rfl).drop).swap
      exact hag _ _ _ ⟨d ++ [n], rfl, hnd3, hsub3, h7, rfl⟩ (by simp; omega)
end
end Go.Proofs.YtkpnackmijjciaaGreatDoor
