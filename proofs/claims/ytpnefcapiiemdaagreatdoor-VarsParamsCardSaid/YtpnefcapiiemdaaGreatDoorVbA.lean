/- Parameters by their numbers; texts joined: plain facts. Conditions: none. -/
import Derived.Test.YtpnefcapiiemdaaGreatDoorTxA
import Derived.Test.YtpnefcapiiemdaaGreatDoorTxR
import Derived.Test.YtpnefcapiiemdaaGreatDoorVaX
import Derived.Lib.Join
namespace Go.Proofs.YtpnefcapiiemdaaGreatDoor
open E Go.Lib
set_option linter.unusedVariables false
set_option linter.unusedSimpArgs false
set_option maxHeartbeats 1000000
set_option maxRecDepth 20000
theorem drop_all {l : Str} {q : UInt8 → Bool} (h : l.dropWhile q = []) : ∀ c, c ∈ l → q c = true := by
  intro c hc
  have e : l.takeWhile q = l := by
    have := List.takeWhile_append_dropWhile (p := q) (l := l)
    rw [h, List.append_nil] at this
    exact this
  have := List.all_takeWhile (p := q) (l := l)
  rw [e] at this
  exact List.all_eq_true.1 this c hc
theorem trim_all {p : Str} (h : trimS p digs = []) : ∀ c, c ∈ p → digs.contains c = true := by
  intro c hc
  unfold trimS trimLeftS at h
  by_cases hm : c ∈ trimRightS p digs
  · exact drop_all h c hm
  · unfold trimRightS at hm
    have hc' : c ∈ p.reverse := by rw [List.mem_reverse]; exact hc
    rw [← List.takeWhile_append_dropWhile (p := (digs.contains ·)) (l := p.reverse)] at hc'
    rcases List.mem_append.1 hc' with h2 | h2
    · exact List.all_eq_true.1 (List.all_takeWhile (p := (digs.contains ·)) (l := p.reverse)) c h2
    · exact absurd (List.mem_reverse.2 h2) hm
/-- Of some texts the one with that number. -/
def refP (l : List Str) (p : Str) : Str × Bool := match (List.range l.length).find? (fun (i : Nat) => decide (itoa ((i : Int) + 1) = p)) with
  | some i => (l.getD i [], true)
  | none => ([], false)
def d20 : List Str := [[49], [50], [51], [52], [53], [54], [55], [56], [57], [49, 48], [49, 49], [49, 50], [49, 51], [49, 52], [49, 53], [49, 54], [49, 55], [49, 56], [49, 57], [50, 48]]
theorem d20_at {i : Nat} (hi : i < 20) : itoa ((i : Int) + 1) = d20.getD i [] := by
  have e : itoa ((i : Int) + 1) = decDigits (i + 1) := by
    have : ((i : Int) + 1) = ((i + 1 : Nat) : Int) := by omega
    rw [this]
    unfold itoa
    rw [if_neg (by omega), Int.toNat_natCast]
  have h1 : ∀ i : Fin 20, (if i.val + 1 < 10 then [UInt8.ofNat (48 + (i.val + 1))] else [UInt8.ofNat (48 + (i.val + 1) / 10), UInt8.ofNat (48 + (i.val + 1) % 10)]) = d20.getD i.val [] := by decide
  have h2 := h1 ⟨i, hi⟩
  simp only at h2
  rw [e, ← h2]
  by_cases h : i + 1 < 10
  · rw [if_pos h, decDigits_one h]
  · rw [if_neg h, decDigits_two h (by omega)]
theorem d20_all : ∀ i : Fin 20, trimS (d20.getD i.val []) digs = [] ∧ (d20.getD i.val []).head? ≠ some 48 ∧ d20.getD i.val [] ≠ [] := by decide
def okIs (e : NumEnd Int) (v : Int) : Bool := match e with | .ok u => u == v | _ => false
theorem d20_num0 : ∀ i : Fin 20, okIs (atoiAll (d20.getD i.val [])) ((i.val : Int) + 1) = true := by decide
theorem num_at {i : Nat} (hi : i < 20) : atoiAll (itoa ((i : Int) + 1)) = .ok ((i : Int) + 1) := by
  have h := d20_num0 ⟨i, hi⟩
  simp only at h
  rw [← d20_at hi] at h
  unfold okIs at h
  cases ha : atoiAll (itoa ((i : Int) + 1)) with
  | ok u => rw [ha] at h; simp at h; rw [h]
  | _ => rw [ha] at h; simp at h
theorem itoa_is {i : Nat} (hi : i < 20) : trimS (itoa ((i : Int) + 1)) digs = [] ∧ (itoa ((i : Int) + 1)).head? ≠ some 48 ∧ itoa ((i : Int) + 1) ≠ [] := by
  rw [d20_at hi]
  exact d20_all ⟨i, hi⟩
theorem pu_ge : ∀ {l : Str} {acc u : Nat}, parseUint10 acc l = .ok u → acc ≤ u
  | [], acc, u, h => by simp only [parseUint10] at h; injection h with h; omega
  | c :: r, acc, u, h => by
    simp only [parseUint10] at h
    split at h
    · split at h
      · cases h
      · split at h
        · cases h
        · have := pu_ge h; omega
    · cases h
theorem dig_rng {c : UInt8} (h : digs.contains c = true) : 48 ≤ c.toNat ∧ c.toNat ≤ 57 := by
  simp at h
  rcases h with rfl | rfl | rfl | rfl | rfl | rfl | rfl | rfl | rfl | rfl <;> decide
/-- A number up to twenty without a nought ahead is one of twenty texts. -/
theorem num_is {p : Str} {v : Int} (h0 : p ≠ []) (ht : trimS p digs = []) (h48 : p.head? ≠ some 48) (hv : atoiAll p = .ok v) (h20 : v ≤ 20) : 1 ≤ v ∧ itoa v = p := by
  have hall := trim_all ht
  cases p with
  | nil => exact absurd rfl h0
  | cons c r =>
    have hc := dig_rng (hall c (by simp))
    have hc48 : ¬ c = 48 := fun e => h48 (by simp [e])
    have hc49 : 49 ≤ c.toNat := by
      by_cases h : c.toNat = 48
      · exact absurd (UInt8.toNat_inj.1 h) hc48
      · omega
    rw [atoiAll_plain c r (by omega) (by omega)] at hv
    unfold parseMag at hv
    rw [if_neg (by simp)] at hv
    cases hp : parseUint10 0 (c :: r) with
    | ok u =>
      rw [hp] at hv
      unfold signless at hv
      simp only at hv
      split at hv
      · cases hv
      · injection hv with hv
        have hu : u ≤ 20 := by omega
        simp only [parseUint10, hc, and_self, if_true] at hp
        simp only [Nat.zero_mul, Nat.zero_add] at hp
        rw [if_neg (by omega), if_neg (by omega)] at hp
        cases r with
        | nil =>
          simp only [parseUint10] at hp
          injection hp with hp
          refine ⟨by omega, ?_⟩
          have e : v = ((c.toNat - 48 : Nat) : Int) := by omega
          rw [e]
          unfold itoa
          rw [if_neg (by omega), Int.toNat_natCast, decDigits, dif_pos (by omega)]
          congr 1
          apply UInt8.toNat_inj.1
          simp
          omega
        | cons d e =>
          have hd := dig_rng (hall d (by simp))
          simp only [parseUint10, hd, and_self, if_true] at hp
          rw [if_neg (by omega), if_neg (by omega)] at hp
          cases e with
          | nil =>
            simp only [parseUint10] at hp
            injection hp with hp
            refine ⟨by omega, ?_⟩
            have e : v = (((c.toNat - 48) * 10 + (d.toNat - 48) : Nat) : Int) := by omega
            rw [e]
            unfold itoa
            rw [if_neg (by omega), Int.toNat_natCast, decDigits, dif_neg (by omega), decDigits, dif_pos (by omega)]
            have e1 : UInt8.ofNat (48 + ((c.toNat - 48) * 10 + (d.toNat - 48)) / 10) = c := by
              apply UInt8.toNat_inj.1
              simp
              omega
            have e2 : UInt8.ofNat (48 + ((c.toNat - 48) * 10 + (d.toNat - 48)) % 10) = d := by
              apply UInt8.toNat_inj.1
              simp
              omega
            rw [e1, e2]
            rfl
          | cons x y =>
            have hx := dig_rng (hall x (by simp))
            simp only [parseUint10, hx, and_self, if_true] at hp
            rw [if_neg (by omega), if_neg (by omega)] at hp
            have := pu_ge hp
            omega
    | _ => rw [hp] at hv; cases hv
theorem find_range {n : Nat} {q : Nat → Bool} {i : Nat} (hi : i < n) (h : q i = true) (hu : ∀ j, q j = true → j = i) : (List.range n).find? q = some i := by
  cases hf : (List.range n).find? q with
  | none =>
    have := List.find?_eq_none.1 hf i (List.mem_range.2 hi)
    rw [h] at this
    exact absurd rfl this
  | some j => rw [hu j (List.find?_some hf)]
theorem refP_none {l : List Str} {p : Str} (h : ∀ i, i < l.length → itoa ((i : Int) + 1) ≠ p) : refP l p = ([], false) := by
  unfold refP
  rw [List.find?_eq_none.2]
  intro i hi
  simpa using h i (List.mem_range.1 hi)
theorem refP_some {l : List Str} {p : Str} {i : Nat} (hi : i < l.length) (hl : l.length ≤ 20) (h : itoa ((i : Int) + 1) = p) : refP l p = (l[i], true) := by
  unfold refP
  have hf : (List.range l.length).find? (fun (i : Nat) => decide (itoa ((i : Int) + 1) = p)) = some i := by
    cases hf : (List.range l.length).find? (fun (i : Nat) => decide (itoa ((i : Int) + 1) = p)) with
    | none =>
      have := List.find?_eq_none.1 hf i (List.mem_range.2 hi)
      simp [h] at this
    | some j =>
      have h1 := List.find?_some hf
      have h2 := List.mem_range.1 (List.mem_of_find?_eq_some hf)
      simp only [decide_eq_true_iff] at h1
      have h3 := num_at (i := j) (by omega)
      have h4 := num_at (i := i) (by omega)
      rw [h1, ← h, h4] at h3
      injection h3 with h3
      congr 1
      omega
  rw [hf]
  simp only
  rw [List.getD_eq_getElem?_getD, List.getElem?_eq_getElem hi]
  rfl
theorem join_snoc {l : List Str} {x sep : Str} (h : l ≠ []) : Lib.join (l ++ [x]) sep = Lib.join l sep ++ (sep ++ x) := by
  cases l with
  | nil => exact absurd rfl h
  | cons y r =>
    rw [List.cons_append, join_cons, join_cons]
    unfold joinTail
    rw [List.map_append, List.flatten_append]
    simp
theorem join_len {l : List Str} (h : ∀ s, s ∈ l → s.length ≤ 200) : (Lib.join l [32]).length ≤ l.length * 201 := by
  cases l with
  | nil => simp [join_nil]
  | cons y r =>
    rw [join_cons, List.length_append]
    have h1 := h y (by simp)
    have h2 : (joinTail [32] r).length ≤ r.length * 201 := by
      have hr : ∀ s, s ∈ r → s.length ≤ 200 := fun s hs => h s (by simp [hs])
      clear h h1
      unfold joinTail
      induction r with
      | nil => simp
      | cons z r ih =>
        have := ih (fun s hs => hr s (by simp [hs]))
        have := hr z (by simp)
        simp only [List.map_cons, List.flatten_cons, List.length_append, List.length_cons, List.length_nil]
        omega
    simp only [List.length_cons]
    omega
end Go.Proofs.YtpnefcapiiemdaaGreatDoor
namespace Go.Proofs.YtpnefcapiiemdaaGreatDoor
open E Go.Lib
set_option linter.unusedVariables false
set_option linter.unusedSimpArgs false
set_option maxHeartbeats 1000000
set_option maxRecDepth 20000
/-- What a number's text answers. -/
def numF (s : Str) (most : Int) : Int × Int := if s = [] ∨ trimS s digs ≠ [] then (0, 10) else match atoiAll s with
  | .ok v => if most < v then (0, 3) else (v, 0)
  | _ => (0, 3)
theorem pu_dig : ∀ {l : Str} {acc : Nat}, (∀ c, c ∈ l → digs.contains c = true) → parseUint10 acc l ≠ NumEnd.syntax
  | [], acc, h => by simp only [parseUint10]; exact fun h => by cases h
  | c :: r, acc, h => by
    have hc := dig_rng (h c (by simp))
    have hr := pu_dig (l := r) (acc := acc * 10 + (c.toNat - 48)) (fun d hd => h d (by simp [hd]))
    simp only [parseUint10, hc, and_self, if_true]
    split
    · exact fun h => by cases h
    · split
      · exact fun h => by cases h
      · exact hr
theorem atoi_dig {p : Str} (h0 : p ≠ []) (ht : trimS p digs = []) : atoiAll p ≠ NumEnd.syntax := by
  have hall := trim_all ht
  cases p with
  | nil => exact absurd rfl h0
  | cons c r =>
    have hc := dig_rng (hall c (by simp))
    rw [atoiAll_plain c r (by omega) (by omega)]
    unfold parseMag
    rw [if_neg (by simp)]
    have := pu_dig (acc := 0) hall
    cases hp : parseUint10 0 (c :: r) with
    | range => unfold signless; exact fun h => by cases h
    | ok u =>
      unfold signless
      simp only
      split
      · exact fun h => by cases h
      · exact fun h => by cases h
    | _ => exact absurd hp this
section
variable {σ σ' : AS} {X : Ce} {R : List Ck} {k : Value → AS → Prop} {s : Str} {te : Nat} {pe u : Value} {most : Int} {l : List Str}
theorem atoi2_c (hX : X 3 0 = some (.iface te pe)) (h : Hs σ X R) (hl : s.length ≤ 1000000) (hs : atoiAll s ≠ NumEnd.syntax)
    (hk : ∀ e j, (∀ v, atoiAll s = .ok v → e = .tuple #[.int .i64 v, .nilIface]) → (atoiAll s = .range → ∃ m t p, e = .tuple #[.int .i64 m, .iface t p]) → k e (σ.up j)) : kCall Tryz.prog 55 [.string (bs s)] σ k := by
  have e : (bs s).data.toList = s := by simp [bs]
  have hsz : (bs s).size = s.length := by show s.toArray.size = _; simp
  cases ha : atoiAll s with
  | ok v =>
    refine below_by (v := .tuple #[.int .i64 v, .nilIface]) (fun w hw => ?_) (fun j => hk _ j (fun v' h' => by rw [ha] at h'; injection h' with h'; rw [h']) (fun h' => by rw [ha] at h'; cases h'))
    refine Calls.mono (Any.strconv_Atoi_ok Tryz.laysC172 (bs s) (by omega) v (by rw [e]; exact ha) w) fun e' w' ⟨h1, h2⟩ => ⟨h1, ?_⟩
    rcases h2 with rfl | ⟨t, rfl⟩
    · exact RowKit.Below.refl _ _
    · exact Go.Lib.bytesWorld_below _ _ _
  | range =>
    refine below_ex (Q := fun e => ∃ m t p, e = .tuple #[.int .i64 m, .iface t p]) (fun w hw => ?_) (fun v j hv => hk _ j (fun v' h' => by rw [ha] at h'; cases h') (fun _ => hv))
    exact Calls.mono (Any.strconv_Atoi_range Tryz.laysC172 (bs s) (by omega) (by rw [e]; exact ha) (.iface te pe) w (hw.ld (h.x _ _ _ hX)) (.inr ⟨_, _, rfl⟩)) fun e' w' ⟨N, h1, _, _, h4⟩ => ⟨⟨_, h1, _, _, _, rfl⟩, h4⟩
  | _ => exact absurd ha hs
theorem number2_c (hX : X 3 0 = some (.iface te pe)) (h : Hs σ X R) (hl : s.length ≤ 1000000) (hk : ∀ σ', Hs σ' X R → k (.tuple #[.int .i64 (numF s most).1, .int .i64 (numF s most).2]) σ') :
    kCall Tryz.prog 46 [.string (bs s), .int .i64 most] σ k := by
  refine f46 ?_
  unfold numF at hk
  by_cases h0 : s = []
  · subst h0
    rw [if_pos (.inl rfl)] at hk
    (simp (maxSteps := 1000000) (dsimp := false) (disch := (first | omega | (simp only [okR]; done) | (simp only [sizeR] <;> omega) | fail)) only [↓preR, postR, ↓w_join, Nat.reduceEqDiff, Nat.reduceAdd, Nat.reduceSub, Nat.reduceMul, Int.reduceNeg, Nat.reduceLT, Int.reduceToNat, Nat.reduceLeDiff, Nat.sub_zero, F46])
    exact hk _ h
  (simp (maxSteps := 1000000) (dsimp := false) (disch := (first | omega | (simp only [okR]; done) | (simp only [sizeR] <;> omega) | fail)) only [↓preR, postR, ↓w_join, Nat.reduceEqDiff, Nat.reduceAdd, Nat.reduceSub, Nat.reduceMul, Int.reduceNeg, Nat.reduceLT, Int.reduceToNat, Nat.reduceLeDiff, Nat.sub_zero, F46, h0])
  refine trim_c (by unfold maxLen; omega) fun j => ?_
  by_cases ht : trimS s digs = []
  · rw [if_neg (by rintro (h1 | h1); exact h0 h1; exact h1 ht)] at hk
    rw [ht]
    (simp (maxSteps := 1000000) (dsimp := false) (disch := (first | omega | (simp only [okR]; done) | (simp only [sizeR] <;> omega) | fail)) only [↓preR, postR, ↓w_join, Nat.reduceEqDiff, Nat.reduceAdd, Nat.reduceSub, Nat.reduceMul, Int.reduceNeg, Nat.reduceLT, Int.reduceToNat, Nat.reduceLeDiff, Nat.sub_zero])
    refine atoi2_c hX (h.up j) hl (atoi_dig h0 ht) fun e j' h1 h2 => ?_
    have hh := h.up (j + j')
    cases ha : atoiAll s with
    | ok v =>
      rw [ha] at hk
      have e1 := h1 v ha
      subst e1
      by_cases hm : most < v
      · simp only [if_pos hm] at hk
        (simp (maxSteps := 1000000) (dsimp := false) (disch := (first | omega | (simp only [okR]; done) | (simp only [sizeR] <;> omega) | fail)) only [↓preR, postR, ↓w_join, Nat.reduceEqDiff, Nat.reduceAdd, Nat.reduceSub, Nat.reduceMul, Int.reduceNeg, Nat.reduceLT, Int.reduceToNat, Nat.reduceLeDiff, Nat.sub_zero, hm])
        exact hk _ hh
      · simp only [if_neg hm] at hk
        (simp (maxSteps := 1000000) (dsimp := false) (disch := (first | omega | (simp only [okR]; done) | (simp only [sizeR] <;> omega) | fail)) only [↓preR, postR, ↓w_join, Nat.reduceEqDiff, Nat.reduceAdd, Nat.reduceSub, Nat.reduceMul, Int.reduceNeg, Nat.reduceLT, Int.reduceToNat, Nat.reduceLeDiff, Nat.sub_zero, hm])
        exact hk _ hh
    | range =>
      rw [ha] at hk
      obtain ⟨m, t, p, rfl⟩ := h2 ha
      (simp (maxSteps := 1000000) (dsimp := false) (disch := (first | omega | (simp only [okR]; done) | (simp only [sizeR] <;> omega) | fail)) only [↓preR, postR, ↓w_join, Nat.reduceEqDiff, Nat.reduceAdd, Nat.reduceSub, Nat.reduceMul, Int.reduceNeg, Nat.reduceLT, Int.reduceToNat, Nat.reduceLeDiff, Nat.sub_zero])
      exact hk _ hh
    | _ => exact absurd ha (atoi_dig h0 ht)
  · rw [if_pos (.inr ht)] at hk
    (simp (maxSteps := 1000000) (dsimp := false) (disch := (first | omega | (simp only [okR]; done) | (simp only [sizeR] <;> omega) | fail)) only [↓preR, postR, ↓w_join, Nat.reduceEqDiff, Nat.reduceAdd, Nat.reduceSub, Nat.reduceMul, Int.reduceNeg, Nat.reduceLT, Int.reduceToNat, Nat.reduceLeDiff, Nat.sub_zero, ht])
    exact hk _ (h.up j)
theorem ext156 : Builder.Extra Tryz.prog Tryz.lays156_ren where
  sizeBuilder := by kernel_rfl
  liesBuilder := by kernel_rfl
  t5 := Tryz.underlying5
  a5 := Tryz.isAgg5
  z5 := Tryz.sizeOf5
  v5 := Tryz.zeroValue5
  infoByte := by kernel_rfl
  cellsByte := by kernel_rfl
  sizeByte := by kernel_rfl
  neB5 := by decide
theorem join_c (h : Hs σ X (StrR u l :: R)) (hl : ∀ s, s ∈ l → s.length ≤ 200) (hl2 : l.length ≤ 20) (hk : ∀ σ', Hs σ' X (StrR u l :: R) → k (.string (bs (Lib.join l [32]))) σ') : kCall Tryz.prog 28 [.string (bs [32]), u] σ k := by
  obtain ⟨a, g, o, cap, rfl, hle, hcm, hn, hat⟩ := StrR.get h
  refine f28 ?_
  (simp (maxSteps := 1000000) (dsimp := false) (disch := (first | omega | (simp only [okR]; done) | (simp only [sizeR] <;> omega) | fail)) only [↓preR, postR, ↓w_join, Nat.reduceEqDiff, Nat.reduceAdd, Nat.reduceSub, Nat.reduceMul, Int.reduceNeg, Nat.reduceLT, Int.reduceToNat, Nat.reduceLeDiff, Nat.sub_zero, F28])
  refine below_by (v := .string (bs (Lib.join l [32]))) (fun w hw => ?_) (fun j => ?_)
  · have e0 : l = [] ∨ ∃ y r, l = y :: r := by cases l with | nil => exact .inl rfl | cons y r => exact .inr ⟨y, r, rfl⟩
    rcases e0 with rfl | ⟨y, r, hyr⟩
    · refine Calls.mono (Any.strings_Join_none Tryz.lays156 ext156 a cap (bs [32]) w) fun e w' ⟨he, hw'⟩ => ⟨he, hw' ▸ RowKit.Below.refl _ _⟩
    · have ha : a = some ⟨g, o, none⟩ := (hat 0 (by rw [hyr]; simp)).1
      subst ha
      have hm : (l.map bs).map (·.data.toList) = l := by
        rw [List.map_map]
        have : ((fun x : ByteArray => x.data.toList) ∘ bs) = id := by funext s; simp [bs]
        rw [this, List.map_id]
      have hc : ∀ (j : Nat) x, (l.map bs)[j]? = some x → w.cell? ⟨g, o + j, none⟩ = some (.string x) := by
        intro j x hx
        rw [List.getElem?_map] at hx
        cases hj : l[j]? with
        | none => rw [hj] at hx; cases hx
        | some y =>
          rw [hj] at hx
          injection hx with hx
          subst hx
          obtain ⟨hjl, rfl⟩ := List.getElem?_eq_some_iff.1 hj
          exact hw.ld ((ld_ob _ _).trans (hat j hjl).2.1)
      have := Any.strings_Join Tryz.lays156 ext156 g o cap (l.map bs) (bs [32]) w hc (by
        have := hc 0 (bs y) (by rw [hyr]; rfl)
        exact block_lt_of_cell this) (by simp; omega) (by simpa using hle) (by
        rw [hm]
        have e2 : (bs [32]).data.toList = [32] := by simp [bs]
        rw [e2]
        have := join_len hl
        omega)
      rw [hm, List.length_map] at this
      exact this
  · exact hk _ (h.up j)
end
end Go.Proofs.YtpnefcapiiemdaaGreatDoor
namespace Go.Proofs.YtpnefcapiiemdaaGreatDoor
open E Go.Lib
set_option linter.unusedVariables false
set_option linter.unusedSimpArgs false
set_option maxHeartbeats 1000000
set_option maxRecDepth 20000
theorem numF_ok {p : Str} {most : Int} (h : (numF p most).2 = 0) : p ≠ [] ∧ trimS p digs = [] ∧ ∃ v, atoiAll p = .ok v ∧ v ≤ most ∧ (numF p most).1 = v := by
  unfold numF at h ⊢
  by_cases h0 : p = [] ∨ trimS p digs ≠ []
  · rw [if_pos h0] at h; cases h
  · rw [if_neg h0] at h
    rw [if_neg h0]
    refine ⟨fun h1 => h0 (.inl h1), Classical.byContradiction fun h1 => h0 (.inr h1), ?_⟩
    cases ha : atoiAll p with
    | ok v =>
      rw [ha] at h
      simp only at h ⊢
      by_cases hv : most < v
      · rw [if_pos hv] at h; cases h
      · rw [if_neg hv]
        exact ⟨v, rfl, by omega, rfl⟩
    | _ => rw [ha] at h; cases h
theorem numF_bad {l : List Str} {p : Str} (h20 : l.length ≤ 20) (h : ¬ (numF p l.length).2 = 0) : refP l p = ([], false) := by
  refine refP_none fun i hi e => h ?_
  subst e
  have hi20 : i < 20 := by omega
  obtain ⟨h1, _, h3⟩ := itoa_is hi20
  unfold numF
  rw [if_neg (by rintro (h4 | h4); exact h3 h4; exact h4 h1), num_at hi20]
  simp only
  rw [if_neg (by omega)]
theorem numF_good {l : List Str} {p : Str} (h20 : l.length ≤ 20) (h : (numF p l.length).2 = 0) (h48 : p.head? ≠ some 48) : ∃ (i : Nat) (hi : i < l.length), (numF p l.length).1 = (i : Int) + 1 ∧ refP l p = (l[i], true) := by
  obtain ⟨h0, ht, v, hv, hm, e⟩ := numF_ok h
  obtain ⟨h1, h2⟩ := num_is h0 ht h48 hv (by omega)
  have hi : (v - 1).toNat < l.length := by omega
  refine ⟨(v - 1).toNat, hi, by omega, refP_some hi h20 ?_⟩
  have : (((v - 1).toNat : Nat) : Int) + 1 = v := by omega
  rw [this]
  exact h2
theorem ref_48 {l : List Str} {p : Str} (h20 : l.length ≤ 20) (h48 : p.head? = some 48) : refP l p = ([], false) := by
  refine refP_none fun i hi e => ?_
  subst e
  exact (itoa_is (show i < 20 by omega)).2.1 h48
/-- A parameter's value. -/
def paramV (S : VM) (zero p : Str) : Str × Bool :=
  if p = [35] then (itoa S.ar.length, true) else if p = [63] then (itoa S.st, true) else if p = [64] ∨ p = [42] then (Lib.join S.ar [32], decide (0 < S.ar.length))
  else if nameB p = true then ((getV S.l p).val, (getV S.l p).set) else if p = [48] then (zero, true) else refP S.ar p
/-- How much there is. -/
structure InvP (S : VM) : Prop where
  st : inI64 S.st
  tx : TextsP S.ar
section
variable {σ σ' : AS} {X : Ce} {R : List Ck} {k : Value → AS → Prop} {p zero : Str} {te v r g i : Nat} {pe u av lv : Value} {S : VM} {l : List Str} {o : Go.Obj} {L : List FV} {st : Int}
theorem numbered_c (hX : X 3 0 = some (.iface te pe)) (h : Hs σ X (Vm v zero S :: R)) (hl : p.length ≤ 200) (h20 : S.ar.length ≤ 20)
    (hk : ∀ σ', Hs σ' X (Vm v zero S :: R) → k (.tuple #[.string (bs (if p = [48] then (zero, true) else refP S.ar p).1), .bool (if p = [48] then (zero, true) else refP S.ar p).2]) σ') :
    kCall Tryz.prog 30 [pv v, .string (bs p)] σ k := by
  obtain ⟨av, m, h1⟩ := Vs.open h
  refine f30 ?_
  have h2 : Hs σ X (StrR av S.ar :: Cel v [.string (bs zero), av, .map (some m), .int .i64 S.st] :: Mp (κ := Str) m none (encL S.l) :: R) := h1.front 2 rfl
  obtain ⟨a, g, o, cap, rfl, hle, hcm, _⟩ := StrR.get h2
  unfold maxLen at hcm
  (simp (maxSteps := 1000000) (dsimp := false) (disch := (first | omega | (simp only [okR]; done) | (simp only [sizeR] <;> omega) | fail)) only [↓preR, postR, ↓w_join, Nat.reduceEqDiff, Nat.reduceAdd, Nat.reduceSub, Nat.reduceMul, Int.reduceNeg, Nat.reduceLT, Int.reduceToNat, Nat.reduceLeDiff, Nat.sub_zero, F30, h1.obj])
  refine number2_c hX h1 (by omega) fun σ1 h3 => ?_
  by_cases h48 : p = [48]
  · subst h48
    rw [if_pos rfl] at hk
    (simp (maxSteps := 1000000) (dsimp := false) (disch := (first | omega | (simp only [okR]; done) | (simp only [sizeR] <;> omega) | fail)) only [↓preR, postR, ↓w_join, Nat.reduceEqDiff, Nat.reduceAdd, Nat.reduceSub, Nat.reduceMul, Int.reduceNeg, Nat.reduceLT, Int.reduceToNat, Nat.reduceLeDiff, Nat.sub_zero, h3.obj])
    exact hk _ (Vs.close h3)
  rw [if_neg h48] at hk
  by_cases hb : (numF p S.ar.length).2 = 0
  · obtain ⟨h0, _⟩ := numF_ok hb
    cases p with
    | nil => exact absurd rfl h0
    | cons c q =>
      by_cases hc : c = 48
      · subst hc
        rw [ref_48 h20 rfl] at hk
        (simp (maxSteps := 1000000) (dsimp := false) (disch := (first | omega | (simp only [okR]; done) | (simp only [sizeR] <;> omega) | fail)) only [↓preR, postR, ↓w_join, Nat.reduceEqDiff, Nat.reduceAdd, Nat.reduceSub, Nat.reduceMul, Int.reduceNeg, Nat.reduceLT, Int.reduceToNat, Nat.reduceLeDiff, Nat.sub_zero, h48, hb])
        exact hk _ (Vs.close h3)
      · obtain ⟨i, hi, e1, e2⟩ := numF_good h20 hb (by simpa using hc)
        rw [e2] at hk
        have hcn : ¬ (c.toNat : Int) = 48 := fun h => hc (UInt8.toNat_inj.1 (by show c.toNat = 48; omega))
        have h4 : Hs σ1 X (StrR (.slice a S.ar.length cap) S.ar :: Cel v [.string (bs zero), .slice a S.ar.length cap, .map (some m), .int .i64 S.st] :: Mp (κ := Str) m none (encL S.l) :: R) := h3.front 2 rfl
        obtain ⟨a', g', o', cap', e6, _, _, _, hat⟩ := StrR.get h4
        obtain ⟨rfl, hcl, _⟩ := hat i hi
        injection e6 with e7 e8 e9
        subst e7
        rw [hb, e1]
        have e10 : ((i : Int) + 1 - 1).toNat = i := by omega
        (simp (maxSteps := 1000000) (dsimp := false) (disch := (first | omega | (simp only [okR]; done) | (simp only [sizeR] <;> omega) | fail)) only [↓preR, postR, ↓w_join, Nat.reduceEqDiff, Nat.reduceAdd, Nat.reduceSub, Nat.reduceMul, Int.reduceNeg, Nat.reduceLT, Int.reduceToNat, Nat.reduceLeDiff, Nat.sub_zero, h48, Option.getD_some, hcn, h3.obj, e10, hcl])
        exact hk _ (Vs.close h3)
  · rw [numF_bad h20 hb] at hk
    (simp (maxSteps := 1000000) (dsimp := false) (disch := (first | omega | (simp only [okR]; done) | (simp only [sizeR] <;> omega) | fail)) only [↓preR, postR, ↓w_join, Nat.reduceEqDiff, Nat.reduceAdd, Nat.reduceSub, Nat.reduceMul, Int.reduceNeg, Nat.reduceLT, Int.reduceToNat, Nat.reduceLeDiff, Nat.sub_zero, h48, hb])
    exact hk _ (Vs.close h3)
theorem param2_c (T : VarAt Tryz.prog "internal/strconv.uint64pow10" g o powV) (hX : X 3 0 = some (.iface te pe)) (h : Hs σ X (Vm v zero S :: R)) (hg : R[i]? = some (Oth g o)) (hl : p.length ≤ 200) (hI : InvP S)
    (hk : ∀ σ', Hs σ' X (Vm v zero S :: R) → k (.tuple #[.string (bs (paramV S zero p).1), .bool (paramV S zero p).2]) σ') :
    kCall Tryz.prog 9 [pv v, .string (bs p)] σ k := by
  have hlen := hI.tx.1
  obtain ⟨av, m, h1⟩ := Vs.open h
  refine f9 ?_
  have h2 : Hs σ X (StrR av S.ar :: Cel v [.string (bs zero), av, .map (some m), .int .i64 S.st] :: Mp (κ := Str) m none (encL S.l) :: R) := h1.front 2 rfl
  obtain ⟨a, g', o', cap, rfl, hle, hcm, _⟩ := StrR.get h2
  unfold maxLen at hcm
  unfold paramV at hk
  by_cases h35 : p = [35]
  · subst h35
    rw [if_pos rfl] at hk
    (simp (maxSteps := 1000000) (dsimp := false) (disch := (first | omega | (simp only [okR]; done) | (simp only [sizeR] <;> omega) | fail)) only [↓preR, postR, ↓w_join, Nat.reduceEqDiff, Nat.reduceAdd, Nat.reduceSub, Nat.reduceMul, Int.reduceNeg, Nat.reduceLT, Int.reduceToNat, Nat.reduceLeDiff, Nat.sub_zero, F9, h1.obj])
    refine text_c T (by unfold inI64; omega) (i + 1) h hg fun σ1 h3 => ?_
    exact hk _ h3
  rw [if_neg h35] at hk
  by_cases h63 : p = [63]
  · subst h63
    rw [if_pos rfl] at hk
    (simp (maxSteps := 1000000) (dsimp := false) (disch := (first | omega | (simp only [okR]; done) | (simp only [sizeR] <;> omega) | fail)) only [↓preR, postR, ↓w_join, Nat.reduceEqDiff, Nat.reduceAdd, Nat.reduceSub, Nat.reduceMul, Int.reduceNeg, Nat.reduceLT, Int.reduceToNat, Nat.reduceLeDiff, Nat.sub_zero, F9, h1.obj])
    refine text_c T hI.st (i + 1) h hg fun σ1 h3 => ?_
    exact hk _ h3
  rw [if_neg h63] at hk
  have join : ∀ (J : Value → AS → Prop), (∀ σ3, Hs σ3 X (StrR (.slice a S.ar.length cap) S.ar :: Cel v [.string (bs zero), .slice a S.ar.length cap, .map (some m), .int .i64 S.st] :: Mp (κ := Str) m none (encL S.l) :: R) → J (.string (bs (Lib.join S.ar [32]))) σ3) → kCall Tryz.prog 28 [.string (bs [32]), .slice a S.ar.length cap] σ J := fun J hJ => join_c h2 hI.tx.2 hlen hJ
  by_cases h64 : p = [64] ∨ p = [42]
  · rw [if_pos h64] at hk
    have fin : ∀ σ3, Hs σ3 X (StrR (.slice a S.ar.length cap) S.ar :: Cel v [.string (bs zero), .slice a S.ar.length cap, .map (some m), .int .i64 S.st] :: Mp (κ := Str) m none (encL S.l) :: R) → k (.tuple #[.string (bs (Lib.join S.ar [32])), .bool (decide (0 < S.ar.length))]) σ3 := fun σ3 h3 => hk _ (Vs.close ((h3.front 2 rfl).front 2 rfl))
    have e1 : decide ((0 : Int) < (S.ar.length : Int)) = decide (0 < S.ar.length) := by simp
    rcases h64 with rfl | rfl
    · (simp (maxSteps := 1000000) (dsimp := false) (disch := (first | omega | (simp only [okR]; done) | (simp only [sizeR] <;> omega) | fail)) only [↓preR, postR, ↓w_join, Nat.reduceEqDiff, Nat.reduceAdd, Nat.reduceSub, Nat.reduceMul, Int.reduceNeg, Nat.reduceLT, Int.reduceToNat, Nat.reduceLeDiff, Nat.sub_zero, F9, h1.obj])
      refine join _ fun σ3 h3 => ?_
      have e3 := (h3.front 1 rfl).obj
      (simp (maxSteps := 1000000) (dsimp := false) (disch := (first | omega | (simp only [okR]; done) | (simp only [sizeR] <;> omega) | fail)) only [↓preR, postR, ↓w_join, Nat.reduceEqDiff, Nat.reduceAdd, Nat.reduceSub, Nat.reduceMul, Int.reduceNeg, Nat.reduceLT, Int.reduceToNat, Nat.reduceLeDiff, Nat.sub_zero, e3, e1])
      exact fin _ h3
    · have e42 : ¬ ([42] : Str) = [64] := by decide
      (simp (maxSteps := 1000000) (dsimp := false) (disch := (first | omega | (simp only [okR]; done) | (simp only [sizeR] <;> omega) | fail)) only [↓preR, postR, ↓w_join, Nat.reduceEqDiff, Nat.reduceAdd, Nat.reduceSub, Nat.reduceMul, Int.reduceNeg, Nat.reduceLT, Int.reduceToNat, Nat.reduceLeDiff, Nat.sub_zero, F9, h1.obj, e42])
      refine join _ fun σ3 h3 => ?_
      have e3 := (h3.front 1 rfl).obj
      (simp (maxSteps := 1000000) (dsimp := false) (disch := (first | omega | (simp only [okR]; done) | (simp only [sizeR] <;> omega) | fail)) only [↓preR, postR, ↓w_join, Nat.reduceEqDiff, Nat.reduceAdd, Nat.reduceSub, Nat.reduceMul, Int.reduceNeg, Nat.reduceLT, Int.reduceToNat, Nat.reduceLeDiff, Nat.sub_zero, e3, e1])
      exact fin _ h3
  rw [if_neg h64] at hk
  have h64' : ¬ p = [64] := fun h => h64 (.inl h)
  have h42' : ¬ p = [42] := fun h => h64 (.inr h)
  (simp (maxSteps := 1000000) (dsimp := false) (disch := (first | omega | (simp only [okR]; done) | (simp only [sizeR] <;> omega) | fail)) only [↓preR, postR, ↓w_join, Nat.reduceEqDiff, Nat.reduceAdd, Nat.reduceSub, Nat.reduceMul, Int.reduceNeg, Nat.reduceLT, Int.reduceToNat, Nat.reduceLeDiff, Nat.sub_zero, F9, h35, h63, h64', h42'])
  refine name_c (by unfold maxLen; omega) ?_
  cases hN : nameB p with
  | true =>
    rw [if_pos hN] at hk
    (simp (maxSteps := 1000000) (dsimp := false) (disch := (first | omega | (simp only [okR]; done) | (simp only [sizeR] <;> omega) | fail)) only [↓preR, postR, ↓w_join, Nat.reduceEqDiff, Nat.reduceAdd, Nat.reduceSub, Nat.reduceMul, Int.reduceNeg, Nat.reduceLT, Int.reduceToNat, Nat.reduceLeDiff, Nat.sub_zero])
    refine get_c h fun σ1 h3 => ?_
    (simp (maxSteps := 1000000) (dsimp := false) (disch := (first | omega | (simp only [okR]; done) | (simp only [sizeR] <;> omega) | fail)) only [↓preR, postR, ↓w_join, Nat.reduceEqDiff, Nat.reduceAdd, Nat.reduceSub, Nat.reduceMul, Int.reduceNeg, Nat.reduceLT, Int.reduceToNat, Nat.reduceLeDiff, Nat.sub_zero])
    exact hk _ h3
  | false =>
    rw [if_neg (by rw [hN]; decide)] at hk
    (simp (maxSteps := 1000000) (dsimp := false) (disch := (first | omega | (simp only [okR]; done) | (simp only [sizeR] <;> omega) | fail)) only [↓preR, postR, ↓w_join, Nat.reduceEqDiff, Nat.reduceAdd, Nat.reduceSub, Nat.reduceMul, Int.reduceNeg, Nat.reduceLT, Int.reduceToNat, Nat.reduceLeDiff, Nat.sub_zero])
    refine numbered_c hX h hl hlen fun σ1 h3 => ?_
    (simp (maxSteps := 1000000) (dsimp := false) (disch := (first | omega | (simp only [okR]; done) | (simp only [sizeR] <;> omega) | fail)) only [↓preR, postR, ↓w_join, Nat.reduceEqDiff, Nat.reduceAdd, Nat.reduceSub, Nat.reduceMul, Int.reduceNeg, Nat.reduceLT, Int.reduceToNat, Nat.reduceLeDiff, Nat.sub_zero])
    exact hk _ h3
end
end Go.Proofs.YtpnefcapiiemdaaGreatDoor
namespace Go.Proofs.YtpnefcapiiemdaaGreatDoor
open E Go.Lib
set_option linter.unusedVariables false
set_option linter.unusedSimpArgs false
set_option maxHeartbeats 1000000
set_option maxRecDepth 20000
theorem nm_no {c : UInt8} (h : c = 48 ∨ c = 35 ∨ c = 63 ∨ c = 64 ∨ c = 42) : nameB [c] = false := by
  rcases h with rfl | rfl | rfl | rfl | rfl <;> decide
theorem join_take {l : List Str} {i : Nat} (hi : i < l.length) : Lib.join (l.take (i + 1)) [32] = (if 0 < i then Lib.join (l.take i) [32] ++ [32] else Lib.join (l.take i) [32]) ++ l[i] := by
  rw [List.take_succ_eq_append_getElem hi]
  by_cases h : 0 < i
  · rw [if_pos h, join_snoc (by intro h1; have := congrArg List.length h1; rw [List.length_take, List.length_nil] at this; omega)]
    simp
  · have : i = 0 := by omega
    subst this
    simp [join_nil, join_one]
section
variable {σ σ' : AS} {X : Ce} {R : List Ck} {k : Value → AS → Prop} {p zero : Str} {te v r g i : Nat} {pe u av lv : Value} {S : VM} {l : List Str} {o : Go.Obj} {L : List FV} {st : Int}
theorem rjoin_c (h : Hs σ X R) (hr : RepL X u l) (ht : TextsP l) (hk : k (.string (bs (Lib.join l [32]))) σ) : kCall Tryz.prog 34 [.string (bs [32]), u] σ k := by
  obtain ⟨a, b, o, cap, rfl, hle, hcm, hat⟩ := hr.get
  have hl := ht.1
  refine f34 ?_
  (try simp (maxSteps := 1000000) (dsimp := false) (disch := (first | omega | (simp only [okR]; done) | (simp only [sizeR] <;> omega) | fail)) only [↓preR, postR, ↓w_stop, Nat.reduceEqDiff, Nat.reduceAdd, Nat.reduceSub, Nat.reduceMul, Int.reduceNeg, Nat.reduceLT, Int.reduceToNat, Nat.reduceLeDiff, Nat.sub_zero, F34])
  refine join_by fun J hJ => ?_
  refine loop_inv (fun nn xs s => ∃ j : Nat, xs = [.string (bs (Lib.join (l.take j) [32])), .int .i64 j] ∧ j ≤ l.length ∧ s = σ ∧ nn = l.length - j) _
    ⟨0, by rw [List.take_zero, join_nil]; rfl, Nat.zero_le _, rfl, rfl⟩ ?_
  rintro _ _ s again ⟨j, rfl, hj, rfl, rfl⟩ hag
  (try simp (maxSteps := 1000000) (dsimp := false) (disch := (first | omega | (simp only [okR]; done) | (simp only [sizeR] <;> omega) | fail)) only [↓preR, postR, ↓w_stop, Nat.reduceEqDiff, Nat.reduceAdd, Nat.reduceSub, Nat.reduceMul, Int.reduceNeg, Nat.reduceLT, Int.reduceToNat, Nat.reduceLeDiff, Nat.sub_zero])
  refine join_now ?_
  by_cases hlt : j < l.length
  rotate_left
  · (try simp (maxSteps := 1000000) (dsimp := false) (disch := (first | omega | (simp only [okR]; done) | (simp only [sizeR] <;> omega) | fail)) only [↓preR, postR, ↓w_stop, Nat.reduceEqDiff, Nat.reduceAdd, Nat.reduceSub, Nat.reduceMul, Int.reduceNeg, Nat.reduceLT, Int.reduceToNat, Nat.reduceLeDiff, Nat.sub_zero])
    refine hJ _ _ ?_
    have : j = l.length := by omega
    subst this
    rw [List.take_length]
    (try simp (maxSteps := 1000000) (dsimp := false) (disch := (first | omega | (simp only [okR]; done) | (simp only [sizeR] <;> omega) | fail)) only [↓preR, postR, ↓w_stop, Nat.reduceEqDiff, Nat.reduceAdd, Nat.reduceSub, Nat.reduceMul, Int.reduceNeg, Nat.reduceLT, Int.reduceToNat, Nat.reduceLeDiff, Nat.sub_zero])
    exact hk
  have hjl : (Lib.join (l.take j) [32]).length ≤ 20 * 201 := by
    have := join_len (l := l.take j) (fun s hs => ht.2 s (List.mem_of_mem_take hs))
    rw [List.length_take] at this
    omega
  have hel : l[j].length ≤ 200 := ht.2 _ (List.getElem_mem hlt)
  obtain ⟨rfl, cs, ⟨hcs, _⟩, _, hc⟩ := hat j hlt
  have c0 : X b (o + j) = some (.string (bs l[j])) := by
    have := hc 0 (.string (bs l[j])) (by rw [hcs]; rfl)
    simpa [Rp.sz] using this
  have g0 := h.ldx c0
  have et := join_take hlt
  (try simp (maxSteps := 1000000) (dsimp := false) (disch := (first | omega | (simp only [okR]; done) | (simp only [sizeR] <;> omega) | fail)) only [↓preR, postR, ↓w_stop, Nat.reduceEqDiff, Nat.reduceAdd, Nat.reduceSub, Nat.reduceMul, Int.reduceNeg, Nat.reduceLT, Int.reduceToNat, Nat.reduceLeDiff, Nat.sub_zero])
  refine join_by fun J4 hJ4 => ?_
  have t4 : ∀ w : Str, w = Lib.join (l.take (j + 1)) [32] → J4 [.string (bs w)] s := by
    intro w hw
    subst hw
    refine hJ4 _ _ ?_
    (try simp (maxSteps := 1000000) (dsimp := false) (disch := (first | omega | (simp only [okR]; done) | (simp only [sizeR] <;> omega) | fail)) only [↓preR, postR, ↓w_stop, Nat.reduceEqDiff, Nat.reduceAdd, Nat.reduceSub, Nat.reduceMul, Int.reduceNeg, Nat.reduceLT, Int.reduceToNat, Nat.reduceLeDiff, Nat.sub_zero])
    exact hag _ _ _ ⟨j + 1, rfl, hlt, rfl, rfl⟩ (by omega)
  clear hJ4
  (try simp (maxSteps := 1000000) (dsimp := false) (disch := (first | omega | (simp only [okR]; done) | (simp only [sizeR] <;> omega) | fail)) only [↓preR, postR, ↓w_stop, Nat.reduceEqDiff, Nat.reduceAdd, Nat.reduceSub, Nat.reduceMul, Int.reduceNeg, Nat.reduceLT, Int.reduceToNat, Nat.reduceLeDiff, Nat.sub_zero])
  refine join_by fun J5 hJ5 => ?_
  have t5 : ∀ w : Str, w.length ≤ 5000 → w ++ l[j] = Lib.join (l.take (j + 1)) [32] → J5 [.string (bs w)] s := by
    intro w hwl hw
    refine hJ5 _ _ ?_
    (try simp (maxSteps := 1000000) (dsimp := false) (disch := (first | omega | (simp only [okR]; done) | (simp only [sizeR] <;> omega) | fail)) only [↓preR, postR, ↓w_stop, Nat.reduceEqDiff, Nat.reduceAdd, Nat.reduceSub, Nat.reduceMul, Int.reduceNeg, Nat.reduceLT, Int.reduceToNat, Nat.reduceLeDiff, Nat.sub_zero, g0])
    exact t4 _ hw
  clear hJ5
  by_cases h0 : 0 < j
  · rw [if_pos h0] at et
    (try simp (maxSteps := 1000000) (dsimp := false) (disch := (first | omega | (simp only [okR]; done) | (simp only [sizeR] <;> omega) | fail)) only [↓preR, postR, ↓w_stop, Nat.reduceEqDiff, Nat.reduceAdd, Nat.reduceSub, Nat.reduceMul, Int.reduceNeg, Nat.reduceLT, Int.reduceToNat, Nat.reduceLeDiff, Nat.sub_zero, h0])
    exact t5 _ (by simp; omega) et.symm
  · rw [if_neg h0] at et
    (try simp (maxSteps := 1000000) (dsimp := false) (disch := (first | omega | (simp only [okR]; done) | (simp only [sizeR] <;> omega) | fail)) only [↓preR, postR, ↓w_stop, Nat.reduceEqDiff, Nat.reduceAdd, Nat.reduceSub, Nat.reduceMul, Int.reduceNeg, Nat.reduceLT, Int.reduceToNat, Nat.reduceLeDiff, Nat.sub_zero, h0])
    exact t5 _ (by omega) et.symm
theorem rparam_c (h : Hs σ X (RfL lv r zero av S.st (allV S.l) R)) (hra : RepL X av S.ar) (hl : p.length ≤ 200) (hI : InvP S)
    (hk : ∀ σ', Hs σ' X (RfL lv r zero av S.st (allV S.l) R) → k (.tuple #[.string (bs (paramV S zero p).1), .bool (paramV S zero p).2]) σ') :
    kCall Tryz.prog 10 [pv r, .string (bs p)] σ k := by
  have hlen := hI.tx.1
  obtain ⟨a, b, o, cap, rfl, hle, hcm, hat⟩ := hra.get
  have e0 := (h.front 1 rfl).obj
  refine f10 ?_
  unfold paramV at hk
  (try simp (maxSteps := 1000000) (dsimp := false) (disch := (first | omega | (simp only [okR]; done) | (simp only [sizeR] <;> omega) | fail)) only [↓preR, postR, ↓w_stop, Nat.reduceEqDiff, Nat.reduceAdd, Nat.reduceSub, Nat.reduceMul, Int.reduceNeg, Nat.reduceLT, Int.reduceToNat, Nat.reduceLeDiff, Nat.sub_zero, F10])
  refine join_by fun J1 hJ1 => ?_
  refine rname_c (by unfold maxLen; omega) ?_
  cases hN : nameB p with
  | true =>
    have hno : ∀ c : UInt8, (c = 48 ∨ c = 35 ∨ c = 63 ∨ c = 64 ∨ c = 42) → ¬ p = [c] := by
      intro c hc e
      subst e
      rw [nm_no hc] at hN
      cases hN
    rw [if_neg (hno 35 (by simp)), if_neg (hno 63 (by simp)), if_neg (by rintro (h1 | h1); exact hno 64 (by simp) h1; exact hno 42 (by simp) h1), if_pos hN] at hk
    (try simp (maxSteps := 1000000) (dsimp := false) (disch := (first | omega | (simp only [okR]; done) | (simp only [sizeR] <;> omega) | fail)) only [↓preR, postR, ↓w_stop, Nat.reduceEqDiff, Nat.reduceAdd, Nat.reduceSub, Nat.reduceMul, Int.reduceNeg, Nat.reduceLT, Int.reduceToNat, Nat.reduceLeDiff, Nat.sub_zero])
    refine rget_c h fun σ1 h1 => ?_
    (try simp (maxSteps := 1000000) (dsimp := false) (disch := (first | omega | (simp only [okR]; done) | (simp only [sizeR] <;> omega) | fail)) only [↓preR, postR, ↓w_stop, Nat.reduceEqDiff, Nat.reduceAdd, Nat.reduceSub, Nat.reduceMul, Int.reduceNeg, Nat.reduceLT, Int.reduceToNat, Nat.reduceLeDiff, Nat.sub_zero])
    exact hk _ h1
  | false =>
    (try simp (maxSteps := 1000000) (dsimp := false) (disch := (first | omega | (simp only [okR]; done) | (simp only [sizeR] <;> omega) | fail)) only [↓preR, postR, ↓w_stop, Nat.reduceEqDiff, Nat.reduceAdd, Nat.reduceSub, Nat.reduceMul, Int.reduceNeg, Nat.reduceLT, Int.reduceToNat, Nat.reduceLeDiff, Nat.sub_zero])
    refine hJ1 _ _ ?_
    clear hJ1
    (try simp (maxSteps := 1000000) (dsimp := false) (disch := (first | omega | (simp only [okR]; done) | (simp only [sizeR] <;> omega) | fail)) only [↓preR, postR, ↓w_stop, Nat.reduceEqDiff, Nat.reduceAdd, Nat.reduceSub, Nat.reduceMul, Int.reduceNeg, Nat.reduceLT, Int.reduceToNat, Nat.reduceLeDiff, Nat.sub_zero])
    refine join_by fun J2 hJ2 => ?_
    by_cases h48 : p = [48]
    · subst h48
      rw [if_neg (by decide), if_neg (by decide), if_neg (by decide), if_neg (by rw [hN]; decide), if_pos rfl] at hk
      (try simp (maxSteps := 1000000) (dsimp := false) (disch := (first | omega | (simp only [okR]; done) | (simp only [sizeR] <;> omega) | fail)) only [↓preR, postR, ↓w_stop, Nat.reduceEqDiff, Nat.reduceAdd, Nat.reduceSub, Nat.reduceMul, Int.reduceNeg, Nat.reduceLT, Int.reduceToNat, Nat.reduceLeDiff, Nat.sub_zero, e0])
      exact hk _ h
    by_cases h35 : p = [35]
    · subst h35
      rw [if_pos rfl] at hk
      (try simp (maxSteps := 1000000) (dsimp := false) (disch := (first | omega | (simp only [okR]; done) | (simp only [sizeR] <;> omega) | fail)) only [↓preR, postR, ↓w_stop, Nat.reduceEqDiff, Nat.reduceAdd, Nat.reduceSub, Nat.reduceMul, Int.reduceNeg, Nat.reduceLT, Int.reduceToNat, Nat.reduceLeDiff, Nat.sub_zero, e0])
      refine rtext_c (by unfold inI64; omega) h fun σ1 h1 => ?_
      exact hk _ h1
    rw [if_neg h35] at hk
    by_cases h63 : p = [63]
    · subst h63
      rw [if_pos rfl] at hk
      (try simp (maxSteps := 1000000) (dsimp := false) (disch := (first | omega | (simp only [okR]; done) | (simp only [sizeR] <;> omega) | fail)) only [↓preR, postR, ↓w_stop, Nat.reduceEqDiff, Nat.reduceAdd, Nat.reduceSub, Nat.reduceMul, Int.reduceNeg, Nat.reduceLT, Int.reduceToNat, Nat.reduceLeDiff, Nat.sub_zero, e0])
      refine rtext_c hI.st h fun σ1 h1 => ?_
      exact hk _ h1
    rw [if_neg h63] at hk
    have e1 : decide ((0 : Int) < (S.ar.length : Int)) = decide (0 < S.ar.length) := by simp
    by_cases h64 : p = [64] ∨ p = [42]
    · rw [if_pos h64] at hk
      rcases h64 with rfl | rfl
      · (try simp (maxSteps := 1000000) (dsimp := false) (disch := (first | omega | (simp only [okR]; done) | (simp only [sizeR] <;> omega) | fail)) only [↓preR, postR, ↓w_stop, Nat.reduceEqDiff, Nat.reduceAdd, Nat.reduceSub, Nat.reduceMul, Int.reduceNeg, Nat.reduceLT, Int.reduceToNat, Nat.reduceLeDiff, Nat.sub_zero, h48, h35, h63])
        refine join_by fun J7 hJ7 => ?_
        (try simp (maxSteps := 1000000) (dsimp := false) (disch := (first | omega | (simp only [okR]; done) | (simp only [sizeR] <;> omega) | fail)) only [↓preR, postR, ↓w_stop, Nat.reduceEqDiff, Nat.reduceAdd, Nat.reduceSub, Nat.reduceMul, Int.reduceNeg, Nat.reduceLT, Int.reduceToNat, Nat.reduceLeDiff, Nat.sub_zero])
        refine hJ7 _ _ ?_
        (try simp (maxSteps := 1000000) (dsimp := false) (disch := (first | omega | (simp only [okR]; done) | (simp only [sizeR] <;> omega) | fail)) only [↓preR, postR, ↓w_stop, Nat.reduceEqDiff, Nat.reduceAdd, Nat.reduceSub, Nat.reduceMul, Int.reduceNeg, Nat.reduceLT, Int.reduceToNat, Nat.reduceLeDiff, Nat.sub_zero, e0])
        refine rjoin_c h hra hI.tx ?_
        (try simp (maxSteps := 1000000) (dsimp := false) (disch := (first | omega | (simp only [okR]; done) | (simp only [sizeR] <;> omega) | fail)) only [↓preR, postR, ↓w_stop, Nat.reduceEqDiff, Nat.reduceAdd, Nat.reduceSub, Nat.reduceMul, Int.reduceNeg, Nat.reduceLT, Int.reduceToNat, Nat.reduceLeDiff, Nat.sub_zero, e0, e1])
        exact hk _ h
      · have e42 : ¬ ([42] : Str) = [64] := by decide
        (try simp (maxSteps := 1000000) (dsimp := false) (disch := (first | omega | (simp only [okR]; done) | (simp only [sizeR] <;> omega) | fail)) only [↓preR, postR, ↓w_stop, Nat.reduceEqDiff, Nat.reduceAdd, Nat.reduceSub, Nat.reduceMul, Int.reduceNeg, Nat.reduceLT, Int.reduceToNat, Nat.reduceLeDiff, Nat.sub_zero, h48, h35, h63])
        refine join_by fun J7 hJ7 => ?_
        (try simp (maxSteps := 1000000) (dsimp := false) (disch := (first | omega | (simp only [okR]; done) | (simp only [sizeR] <;> omega) | fail)) only [↓preR, postR, ↓w_stop, Nat.reduceEqDiff, Nat.reduceAdd, Nat.reduceSub, Nat.reduceMul, Int.reduceNeg, Nat.reduceLT, Int.reduceToNat, Nat.reduceLeDiff, Nat.sub_zero, e42])
        refine hJ7 _ _ ?_
        (try simp (maxSteps := 1000000) (dsimp := false) (disch := (first | omega | (simp only [okR]; done) | (simp only [sizeR] <;> omega) | fail)) only [↓preR, postR, ↓w_stop, Nat.reduceEqDiff, Nat.reduceAdd, Nat.reduceSub, Nat.reduceMul, Int.reduceNeg, Nat.reduceLT, Int.reduceToNat, Nat.reduceLeDiff, Nat.sub_zero, e0])
        refine rjoin_c h hra hI.tx ?_
        (try simp (maxSteps := 1000000) (dsimp := false) (disch := (first | omega | (simp only [okR]; done) | (simp only [sizeR] <;> omega) | fail)) only [↓preR, postR, ↓w_stop, Nat.reduceEqDiff, Nat.reduceAdd, Nat.reduceSub, Nat.reduceMul, Int.reduceNeg, Nat.reduceLT, Int.reduceToNat, Nat.reduceLeDiff, Nat.sub_zero, e0, e1])
        exact hk _ h
    rw [if_neg h64, if_neg (by rw [hN]; decide), if_neg h48] at hk
    have h64' : ¬ p = [64] := fun h => h64 (.inl h)
    have h42' : ¬ p = [42] := fun h => h64 (.inr h)
    (try simp (maxSteps := 1000000) (dsimp := false) (disch := (first | omega | (simp only [okR]; done) | (simp only [sizeR] <;> omega) | fail)) only [↓preR, postR, ↓w_stop, Nat.reduceEqDiff, Nat.reduceAdd, Nat.reduceSub, Nat.reduceMul, Int.reduceNeg, Nat.reduceLT, Int.reduceToNat, Nat.reduceLeDiff, Nat.sub_zero, h48, h35, h63])
    refine join_by fun J7 hJ7 => ?_
    (try simp (maxSteps := 1000000) (dsimp := false) (disch := (first | omega | (simp only [okR]; done) | (simp only [sizeR] <;> omega) | fail)) only [↓preR, postR, ↓w_stop, Nat.reduceEqDiff, Nat.reduceAdd, Nat.reduceSub, Nat.reduceMul, Int.reduceNeg, Nat.reduceLT, Int.reduceToNat, Nat.reduceLeDiff, Nat.sub_zero, h64', h42'])
    refine hJ7 _ _ ?_
    clear hJ7
    (try simp (maxSteps := 1000000) (dsimp := false) (disch := (first | omega | (simp only [okR]; done) | (simp only [sizeR] <;> omega) | fail)) only [↓preR, postR, ↓w_stop, Nat.reduceEqDiff, Nat.reduceAdd, Nat.reduceSub, Nat.reduceMul, Int.reduceNeg, Nat.reduceLT, Int.reduceToNat, Nat.reduceLeDiff, Nat.sub_zero])
    refine hJ2 _ _ ?_
    clear hJ2
    (try simp (maxSteps := 1000000) (dsimp := false) (disch := (first | omega | (simp only [okR]; done) | (simp only [sizeR] <;> omega) | fail)) only [↓preR, postR, ↓w_stop, Nat.reduceEqDiff, Nat.reduceAdd, Nat.reduceSub, Nat.reduceMul, Int.reduceNeg, Nat.reduceLT, Int.reduceToNat, Nat.reduceLeDiff, Nat.sub_zero])
    refine join_by fun J3 hJ3 => ?_
    refine loop_inv (fun nn xs s => ∃ j : Nat, xs = [.int .i64 j] ∧ j ≤ S.ar.length ∧ (∀ i, i < j → ¬ itoa ((i : Int) + 1) = p) ∧ Hs s X (RfL lv r zero (.slice a S.ar.length cap) S.st (allV S.l) R) ∧ nn = S.ar.length - j) _
      ⟨0, rfl, Nat.zero_le _, fun i hi => absurd hi (by omega), h, rfl⟩ ?_
    rintro _ _ s again ⟨j, rfl, hj, hno, h1, rfl⟩ hag
    have e2 := (h1.front 1 rfl).obj
    (try simp (maxSteps := 1000000) (dsimp := false) (disch := (first | omega | (simp only [okR]; done) | (simp only [sizeR] <;> omega) | fail)) only [↓preR, postR, ↓w_stop, Nat.reduceEqDiff, Nat.reduceAdd, Nat.reduceSub, Nat.reduceMul, Int.reduceNeg, Nat.reduceLT, Int.reduceToNat, Nat.reduceLeDiff, Nat.sub_zero, e2])
    refine join_now ?_
    by_cases hlt : j < S.ar.length
    rotate_left
    · (try simp (maxSteps := 1000000) (dsimp := false) (disch := (first | omega | (simp only [okR]; done) | (simp only [sizeR] <;> omega) | fail)) only [↓preR, postR, ↓w_stop, Nat.reduceEqDiff, Nat.reduceAdd, Nat.reduceSub, Nat.reduceMul, Int.reduceNeg, Nat.reduceLT, Int.reduceToNat, Nat.reduceLeDiff, Nat.sub_zero, e2])
      refine hJ3 _ _ ?_
      (try simp (maxSteps := 1000000) (dsimp := false) (disch := (first | omega | (simp only [okR]; done) | (simp only [sizeR] <;> omega) | fail)) only [↓preR, postR, ↓w_stop, Nat.reduceEqDiff, Nat.reduceAdd, Nat.reduceSub, Nat.reduceMul, Int.reduceNeg, Nat.reduceLT, Int.reduceToNat, Nat.reduceLeDiff, Nat.sub_zero])
      have : j = S.ar.length := by omega
      subst this
      rw [refP_none hno] at hk
      exact hk _ h1
    obtain ⟨rfl, cs, ⟨hcs, _⟩, _, hc⟩ := hat j hlt
    have c0 : X b (o + j) = some (.string (bs S.ar[j])) := by
      have := hc 0 (.string (bs S.ar[j])) (by rw [hcs]; rfl)
      simpa [Rp.sz] using this
    (try simp (maxSteps := 1000000) (dsimp := false) (disch := (first | omega | (simp only [okR]; done) | (simp only [sizeR] <;> omega) | fail)) only [↓preR, postR, ↓w_stop, Nat.reduceEqDiff, Nat.reduceAdd, Nat.reduceSub, Nat.reduceMul, Int.reduceNeg, Nat.reduceLT, Int.reduceToNat, Nat.reduceLeDiff, Nat.sub_zero, e2])
    refine join_by fun J6 hJ6 => ?_
    (try simp (maxSteps := 1000000) (dsimp := false) (disch := (first | omega | (simp only [okR]; done) | (simp only [sizeR] <;> omega) | fail)) only [↓preR, postR, ↓w_stop, Nat.reduceEqDiff, Nat.reduceAdd, Nat.reduceSub, Nat.reduceMul, Int.reduceNeg, Nat.reduceLT, Int.reduceToNat, Nat.reduceLeDiff, Nat.sub_zero])
    refine rtext_c (n := (j : Int) + 1) (by unfold inI64; omega) h1 fun σ1 h2 => ?_
    have e3 := (h2.front 1 rfl).obj
    by_cases he : itoa ((j : Int) + 1) = p
    · rw [refP_some hlt hlen he] at hk
      (try simp (maxSteps := 1000000) (dsimp := false) (disch := (first | omega | (simp only [okR]; done) | (simp only [sizeR] <;> omega) | fail)) only [↓preR, postR, ↓w_stop, Nat.reduceEqDiff, Nat.reduceAdd, Nat.reduceSub, Nat.reduceMul, Int.reduceNeg, Nat.reduceLT, Int.reduceToNat, Nat.reduceLeDiff, Nat.sub_zero, he, e3, h2.ldx c0])
      exact hk _ h2
    · (try simp (maxSteps := 1000000) (dsimp := false) (disch := (first | omega | (simp only [okR]; done) | (simp only [sizeR] <;> omega) | fail)) only [↓preR, postR, ↓w_stop, Nat.reduceEqDiff, Nat.reduceAdd, Nat.reduceSub, Nat.reduceMul, Int.reduceNeg, Nat.reduceLT, Int.reduceToNat, Nat.reduceLeDiff, Nat.sub_zero, he])
      refine hJ6 _ _ ?_
      (try simp (maxSteps := 1000000) (dsimp := false) (disch := (first | omega | (simp only [okR]; done) | (simp only [sizeR] <;> omega) | fail)) only [↓preR, postR, ↓w_stop, Nat.reduceEqDiff, Nat.reduceAdd, Nat.reduceSub, Nat.reduceMul, Int.reduceNeg, Nat.reduceLT, Int.reduceToNat, Nat.reduceLeDiff, Nat.sub_zero])
      refine hag _ _ _ ⟨j + 1, rfl, hlt, fun i hi => ?_, h2, rfl⟩ (by omega)
      by_cases hij : i = j
      · subst hij; exact he
      · exact hno i (by omega)
end
end Go.Proofs.YtpnefcapiiemdaaGreatDoor
namespace Go.Proofs.YtpnefcapiiemdaaGreatDoor
open E Go.Lib
set_option linter.unusedVariables false
set_option linter.unusedSimpArgs false
set_option maxHeartbeats 1000000
set_option maxRecDepth 20000
theorem InvP.turn {S : VM} {n : Str} {w : Bool} {x' : VV} (h : InvP S) : InvP (turnE S n w x').2 := by
  unfold turnE
  split
  · exact h
  split
  · exact h
  · exact ⟨h.st, h.tx⟩
theorem InvP.step {S : VM} {o : OpV} (h : InvP S) (h1 : inI64 o.2.2.2.1) (h2 : TextsP o.2.2.2.2) : InvP (doV o S).2 := by
  unfold doV
  split
  · exact h.turn
  split
  · exact h.turn
  split
  · exact h.turn
  split
  · exact ⟨h.st, h2⟩
  split
  · unfold shiftV
    split
    · exact h
    · refine ⟨h.st, by show (S.ar.drop _).length ≤ _; rw [List.length_drop]; have := h.tx.1; omega, fun s hs => h.tx.2 s (List.mem_of_mem_drop hs)⟩
  split
  · exact ⟨h1, h.tx⟩
  · exact h.turn
section
variable {σ σ' : AS} {X : Ce} {R : List Ck} {k : Value → AS → Prop} {te g i : Nat} {a u pe : Value} {p : Str} {ops : List OpV} {o : Go.Obj}
theorem Vm.nd' {v : Nat} {zero : Str} {S : VM} (h : Hs σ X (Vm v zero S :: R)) : (S.l.map (·.1)).Nodup := by
  obtain ⟨av, m, h1⟩ := Vs.open h
  exact keys_nodup (Mp.keys (κ := Str) (h1.front 1 rfl))
theorem params_walk (T : VarAt Tryz.prog "internal/strconv.uint64pow10" g o powV) (hX : X 3 0 = some (.iface te pe)) (h : Hs σ X R) (hg : R[i]? = some (Oth g o)) (hr : RepL X u ops) (hp : p.length ≤ maxLen)
    (hk : ∀ σ', Hs σ' X R → k (.bool true) σ') : kCall Tryz.prog 3 [u, .string (bs p)] σ k := by
  obtain ⟨a0, b, o', cap, rfl, hc, hm, hat⟩ := ops_at hr
  refine f3 ?_
  unfold maxLen at hm hp
  (try simp (maxSteps := 1000000) (dsimp := false) (disch := (first | omega | (simp only [okR]; done) | (simp only [sizeR] <;> omega) | fail)) only [↓preR, postR, ↓w_stop, Nat.reduceEqDiff, Nat.reduceAdd, Nat.reduceSub, Nat.reduceMul, Int.reduceNeg, Nat.reduceLT, Int.reduceToNat, Nat.reduceLeDiff, Nat.sub_zero, F3])
  refine join_by fun J hJ => ?_
  have tail : p.length ≤ 200 → FewP ops → J [] σ := by
    intro hpl hf
    refine hJ _ _ ?_
    clear hJ
    (try simp (maxSteps := 1000000) (dsimp := false) (disch := (first | omega | (simp only [okR]; done) | (simp only [sizeR] <;> omega) | fail)) only [↓preR, postR, ↓w_stop, Nat.reduceEqDiff, Nat.reduceAdd, Nat.reduceSub, Nat.reduceMul, Int.reduceNeg, Nat.reduceLT, Int.reduceToNat, Nat.reduceLeDiff, Nat.sub_zero])
    refine vnew_c (ms := []) h ⟨none, 0, rfl, .inl rfl⟩ (by simp) fun v s3 h3 => ?_
    (try simp (maxSteps := 1000000) (dsimp := false) (disch := (first | omega | (simp only [okR]; done) | (simp only [sizeR] <;> omega) | fail)) only [↓preR, postR, ↓w_stop, Nat.reduceEqDiff, Nat.reduceAdd, Nat.reduceSub, Nat.reduceMul, Int.reduceNeg, Nat.reduceLT, Int.reduceToNat, Nat.reduceLeDiff, Nat.sub_zero])
    have h4 : Hs _ X (Cel s3.n [.slice none 0 0, .string (bs [122, 101, 114, 111]), .slice none 0 0, .int .i64 0] :: Vm v [122, 101, 114, 111] ⟨[], 0, []⟩ :: R) := h3.new
    have h5 : Hs _ X (VarR (.slice none 0 0) [] :: Cel s3.n [.slice none 0 0, .string (bs [122, 101, 114, 111]), .slice none 0 0, .int .i64 0] :: Vm v [122, 101, 114, 111] ⟨[], 0, []⟩ :: R) := VarR.own h4.own0
    generalize AS.new s3 _ = s4 at h5 ⊢
    generalize s3.n = r at h5 ⊢
    refine join_by fun J2 hJ2 => ?_
    have tail2 : ∀ (s5 : AS) (S : VM) (lv av : Value), InvV S ops.length → InvP S → RepL X av S.ar → Hs s5 X (Vm v [122, 101, 114, 111] S :: RfL lv r [122, 101, 114, 111] av S.st (allV S.l) R) → J2 [] s5 := by
      intro s5 S lv av hI hP hra h6
      refine hJ2 _ _ ?_
      clear hJ2
      (try simp (maxSteps := 1000000) (dsimp := false) (disch := (first | omega | (simp only [okR]; done) | (simp only [sizeR] <;> omega) | fail)) only [↓preR, postR, ↓w_stop, Nat.reduceEqDiff, Nat.reduceAdd, Nat.reduceSub, Nat.reduceMul, Int.reduceNeg, Nat.reduceLT, Int.reduceToNat, Nat.reduceLeDiff, Nat.sub_zero])
      refine param2_c T hX (i := i + 2) h6 hg hpl hP fun s6 h7 => ?_
      (try simp (maxSteps := 1000000) (dsimp := false) (disch := (first | omega | (simp only [okR]; done) | (simp only [sizeR] <;> omega) | fail)) only [↓preR, postR, ↓w_stop, Nat.reduceEqDiff, Nat.reduceAdd, Nat.reduceSub, Nat.reduceMul, Int.reduceNeg, Nat.reduceLT, Int.reduceToNat, Nat.reduceLeDiff, Nat.sub_zero])
      refine rparam_c h7.un2 hra hpl hP fun s7 h8 => ?_
      (try simp (maxSteps := 1000000) (dsimp := false) (disch := (first | omega | (simp only [okR]; done) | (simp only [sizeR] <;> omega) | fail)) only [↓preR, postR, ↓w_stop, Nat.reduceEqDiff, Nat.reduceAdd, Nat.reduceSub, Nat.reduceMul, Int.reduceNeg, Nat.reduceLT, Int.reduceToNat, Nat.reduceLeDiff, Nat.sub_zero, beq_self_eq_true])
      refine awake_c h8 fun s8 h9 => ?_
      (try simp (maxSteps := 1000000) (dsimp := false) (disch := (first | omega | (simp only [okR]; done) | (simp only [sizeR] <;> omega) | fail)) only [↓preR, postR, ↓w_join, Nat.reduceEqDiff, Nat.reduceAdd, Nat.reduceSub, Nat.reduceMul, Int.reduceNeg, Nat.reduceLT, Int.reduceToNat, Nat.reduceLeDiff, Nat.sub_zero])
      exact hk _ (h9.front 2 rfl).drop.drop.drop
    clear hJ2
    have e0 : allV [] = [] := by simp [allV, listV, sortS]
    have h6 : Hs s4 X (Vm v [122, 101, 114, 111] ⟨[], 0, []⟩ :: RfL (.slice none 0 0) r [122, 101, 114, 111] (.slice none 0 0) 0 (allV []) R) := by rw [e0]; exact h5.rot2
    (try simp (maxSteps := 1000000) (dsimp := false) (disch := (first | omega | (simp only [okR]; done) | (simp only [sizeR] <;> omega) | fail)) only [↓preR, postR, ↓w_stop, Nat.reduceEqDiff, Nat.reduceAdd, Nat.reduceSub, Nat.reduceMul, Int.reduceNeg, Nat.reduceLT, Int.reduceToNat, Nat.reduceLeDiff, Nat.sub_zero])
    refine loop_inv (fun nn xs s => ∃ (j : Nat) (S : VM) (lv av : Value), xs = [.int .i64 j] ∧ j ≤ ops.length ∧ InvV S j ∧ InvP S ∧ RepL X av S.ar ∧ Hs s X (Vm v [122, 101, 114, 111] S :: RfL lv r [122, 101, 114, 111] av S.st (allV S.l) R) ∧ nn = ops.length - j) _
      ⟨0, ⟨[], 0, []⟩, .slice none 0 0, .slice none 0 0, rfl, Nat.zero_le _, ⟨Nat.le_refl _, by decide, fun n x h => by cases h⟩, ⟨by show inI64 0; unfold inI64; omega, by unfold TextsP; simp⟩, ⟨none, 0, rfl, Nat.le_refl _, by decide, .inl rfl⟩, h6, rfl⟩ ?_
    rintro _ _ s5 again ⟨j, S, lv, av, rfl, hj, hI, hP, hra, h6, rfl⟩ hag
    (try simp (maxSteps := 1000000) (dsimp := false) (disch := (first | omega | (simp only [okR]; done) | (simp only [sizeR] <;> omega) | fail)) only [↓preR, postR, ↓w_stop, Nat.reduceEqDiff, Nat.reduceAdd, Nat.reduceSub, Nat.reduceMul, Int.reduceNeg, Nat.reduceLT, Int.reduceToNat, Nat.reduceLeDiff, Nat.sub_zero])
    refine join_now ?_
    by_cases hlt : j < ops.length
    rotate_left
    · (try simp (maxSteps := 1000000) (dsimp := false) (disch := (first | omega | (simp only [okR]; done) | (simp only [sizeR] <;> omega) | fail)) only [↓preR, postR, ↓w_stop, Nat.reduceEqDiff, Nat.reduceAdd, Nat.reduceSub, Nat.reduceMul, Int.reduceNeg, Nat.reduceLT, Int.reduceToNat, Nat.reduceLeDiff, Nat.sub_zero])
      have : j = ops.length := by omega
      subst this
      exact tail2 s5 S lv av hI hP hra h6
    obtain ⟨rfl, t, hta, hq, hi, hn3, hv3, c0, c1, c2, c3, c4⟩ := hat j hlt
    obtain ⟨f1, f2, f3⟩ := hf.2 _ (List.getElem_mem hlt)
    obtain ⟨ta, tc, rfl, ht'⟩ := hta
    have hta : RepL X (.slice ta ops[j].2.2.2.2.length tc) ops[j].2.2.2.2 := ⟨ta, tc, rfl, ht'⟩
    have g0 := h6.ldx c0
    have g1 := h6.ldx c1
    have g2 := h6.ldx c2
    have g3 := h6.ldx c3
    have g4 := h6.ldx c4
    (try simp (maxSteps := 1000000) (dsimp := false) (disch := (first | omega | (simp only [okR]; done) | (simp only [sizeR] <;> omega) | fail)) only [↓preR, postR, ↓w_stop, Nat.reduceEqDiff, Nat.reduceAdd, Nat.reduceSub, Nat.reduceMul, Int.reduceNeg, Nat.reduceLT, Int.reduceToNat, Nat.reduceLeDiff, Nat.sub_zero])
    refine join_by fun J5 hJ5 => ?_
    have hlen : S.l.length ≤ 1000000 := by have := hI.len; have := hf.1; omega
    (try simp (maxSteps := 1000000) (dsimp := false) (disch := (first | omega | (simp only [okR]; done) | (simp only [sizeR] <;> omega) | fail)) only [↓preR, postR, ↓w_stop, Nat.reduceEqDiff, Nat.reduceAdd, Nat.reduceSub, Nat.reduceMul, Int.reduceNeg, Nat.reduceLT, Int.reduceToNat, Nat.reduceLeDiff, Nat.sub_zero, g0, g1, g2, g3, g4])
    refine do_c (S := S) (q := ops[j].1) (n := ops[j].2.1) (val := ops[j].2.2.1) (i := ops[j].2.2.2.1) (ms := ops[j].2.2.2.2) h6 hq hn3 hi hta (by have := f3.1; omega) fun s6 h7 => ?_
    have ee : doV (ops[j].1, ops[j].2.1, ops[j].2.2.1, ops[j].2.2.2.1, ops[j].2.2.2.2) S = doV ops[j] S := rfl
    rw [ee] at h7
    have hI' := hI.step (o := ops[j]) f1 f2 f3
    have hP' := hP.step (o := ops[j]) hi f3
    have hNP : NmP S (doV ops[j] S).2 := ⟨hI.all, hlen, Vm.nd' h6, Vm.nd' h7⟩
    have k0 := h7.ldx c0
    have k1 := h7.ldx c1
    have k2 := h7.ldx c2
    have k3 := h7.ldx c3
    have k4 := h7.ldx c4
    (try simp (maxSteps := 1000000) (dsimp := false) (disch := (first | omega | (simp only [okR]; done) | (simp only [sizeR] <;> omega) | fail)) only [↓preR, postR, ↓w_stop, Nat.reduceEqDiff, Nat.reduceAdd, Nat.reduceSub, Nat.reduceMul, Int.reduceNeg, Nat.reduceLT, Int.reduceToNat, Nat.reduceLeDiff, Nat.sub_zero, k0, k1, k2, k3, k4])
    have h8 : Hs s6 X (RfL lv r [122, 101, 114, 111] av S.st (allV S.l) (Vm v [122, 101, 114, 111] (doV ops[j] S).2 :: R)) := h7.un2
    refine asked_c (S := S) (q := ops[j].1) (n := ops[j].2.1) (val := ops[j].2.2.1) (i := ops[j].2.2.2.1) (ms := ops[j].2.2.2.2) hNP (by have := hI.getv ops[j].2.1; unfold maxLen; omega) hra h8 hq hn3 hv3 hi hta fun lv' av' s7 hra' h9 => ?_
    rw [ee] at hra' h9
    refine hJ5 _ _ ?_
    (try simp (maxSteps := 1000000) (dsimp := false) (disch := (first | omega | (simp only [okR]; done) | (simp only [sizeR] <;> omega) | fail)) only [↓preR, postR, ↓w_stop, Nat.reduceEqDiff, Nat.reduceAdd, Nat.reduceSub, Nat.reduceMul, Int.reduceNeg, Nat.reduceLT, Int.reduceToNat, Nat.reduceLeDiff, Nat.sub_zero])
    exact hag _ _ _ ⟨j + 1, (doV ops[j] S).2, lv', av', rfl, hlt, hI', hP', hra', h9.rot2, rfl⟩ (by omega)
  clear hJ
  (try simp (maxSteps := 1000000) (dsimp := false) (disch := (first | omega | (simp only [okR]; done) | (simp only [sizeR] <;> omega) | fail)) only [↓preR, postR, ↓w_stop, Nat.reduceEqDiff, Nat.reduceAdd, Nat.reduceSub, Nat.reduceMul, Int.reduceNeg, Nat.reduceLT, Int.reduceToNat, Nat.reduceLeDiff, Nat.sub_zero])
  refine few_c h hr (fun hf => ?_) ?_
  · (try simp (maxSteps := 1000000) (dsimp := false) (disch := (first | omega | (simp only [okR]; done) | (simp only [sizeR] <;> omega) | fail)) only [↓preR, postR, ↓w_stop, Nat.reduceEqDiff, Nat.reduceAdd, Nat.reduceSub, Nat.reduceMul, Int.reduceNeg, Nat.reduceLT, Int.reduceToNat, Nat.reduceLeDiff, Nat.sub_zero])
    by_cases hpl : p.length ≤ 200
    · (try simp (maxSteps := 1000000) (dsimp := false) (disch := (first | omega | (simp only [okR]; done) | (simp only [sizeR] <;> omega) | fail)) only [↓preR, postR, ↓w_stop, Nat.reduceEqDiff, Nat.reduceAdd, Nat.reduceSub, Nat.reduceMul, Int.reduceNeg, Nat.reduceLT, Int.reduceToNat, Nat.reduceLeDiff, Nat.sub_zero, hpl])
      exact tail hpl hf
    · (try simp (maxSteps := 1000000) (dsimp := false) (disch := (first | omega | (simp only [okR]; done) | (simp only [sizeR] <;> omega) | fail)) only [↓preR, postR, ↓w_stop, Nat.reduceEqDiff, Nat.reduceAdd, Nat.reduceSub, Nat.reduceMul, Int.reduceNeg, Nat.reduceLT, Int.reduceToNat, Nat.reduceLeDiff, Nat.sub_zero, hpl])
      refine awake_c h fun s5 h5 => ?_
      (try simp (maxSteps := 1000000) (dsimp := false) (disch := (first | omega | (simp only [okR]; done) | (simp only [sizeR] <;> omega) | fail)) only [↓preR, postR, ↓w_join, Nat.reduceEqDiff, Nat.reduceAdd, Nat.reduceSub, Nat.reduceMul, Int.reduceNeg, Nat.reduceLT, Int.reduceToNat, Nat.reduceLeDiff, Nat.sub_zero])
      exact hk _ h5
  · (try simp (maxSteps := 1000000) (dsimp := false) (disch := (first | omega | (simp only [okR]; done) | (simp only [sizeR] <;> omega) | fail)) only [↓preR, postR, ↓w_stop, Nat.reduceEqDiff, Nat.reduceAdd, Nat.reduceSub, Nat.reduceMul, Int.reduceNeg, Nat.reduceLT, Int.reduceToNat, Nat.reduceLeDiff, Nat.sub_zero])
    refine awake_c h fun s5 h5 => ?_
    (try simp (maxSteps := 1000000) (dsimp := false) (disch := (first | omega | (simp only [okR]; done) | (simp only [sizeR] <;> omega) | fail)) only [↓preR, postR, ↓w_join, Nat.reduceEqDiff, Nat.reduceAdd, Nat.reduceSub, Nat.reduceMul, Int.reduceNeg, Nat.reduceLT, Int.reduceToNat, Nat.reduceLeDiff, Nat.sub_zero])
    exact hk _ h5
theorem params_law {W : World} {te : Nat} {pe v0 v1 : Value} (T : VarAt Tryz.prog "internal/strconv.uint64pow10" g o powV) (ho : W.heap[g]? = some o) (hE : W.cell? ⟨3, 0, none⟩ = some (.iface te pe))
    (A0 : OV (E.start W).c (shOf Tryz.prog 8 22) v0) (A1 : OV (E.start W).c (shOf Tryz.prog 8 9) v1) : callP Tryz.prog 3 [v0, v1] W fun v w' => v = .bool true ∧ KeepP (fun _ => False) W w' := by
  rw [show shOf Tryz.prog 8 9 = .str from by kernel_rfl] at A1
  obtain ⟨ops, h0⟩ := opsL A0
  obtain ⟨p, rfl, hp⟩ := arg_str A1
  have h1 := h0.offT (gs := [g]) (fun g' i v hg hv => pow_no T ho hg hv)
  exact law_pow T ho fun σ h => params_walk (i := 0) T (err_in T ho hE) h rfl h1 hp fun σ' h' => ⟨rfl, h'⟩
end
end Go.Proofs.YtpnefcapiiemdaaGreatDoor
