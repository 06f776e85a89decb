/- That the translation of an operation is sound, part 3. Conditions: none. -/
import Derived.Test.YtmgdkoidgoihfaaGreatDoorE4
namespace Go.Proofs.YtmgdkoidgoihfaaGreatDoor.E
open Go.RowKit

section
variable {P : Program} {N : Nat} {ρ : Env} {w : World} {k : Value → World → Prop}

theorem lds_len {w : World} {a : Addr} : ∀ {n i : Nat} {l : List Value}, ldsV w a i n = some l → l.length = n
  | 0, i, l, h => by injection h with h; subst h; rfl
  | n + 1, i, l, h => by
    simp only [ldsV, Option.bind_eq_some_iff, Option.map_eq_some_iff] at h
    obtain ⟨v, hv, r, hr, rfl⟩ := h
    simp [lds_len hr]

def bstep (c : Value) (s : ByteArray) : Sem (ForInStep ByteArray) :=
  match c with
  | .int .u8 n => pure (ForInStep.yield (s.push (UInt8.ofNat n.toNat)))
  | _ => do
    stuck "bytesToString: byte expected"
    pure (ForInStep.yield s)
theorem forIn_bytes (l : List UInt8) : ∀ (acc : ByteArray), (forIn (m := Sem) (l.map fun b => (Value.int .u8 b.toNat)) acc bstep).run P w = .ok (l.foldl (fun s b => s.push b) acc) w := by
  induction l with
  | nil => intro acc; simp
  | cons b r ih =>
    intro acc
    have hb : UInt8.ofNat ((b.toNat : Int)).toNat = b := by simp
    simp only [List.map_cons, List.forIn_cons, Sem.run_bind, bstep, Sem.run_pure, Result.andThen_ok, List.foldl_cons, hb]
    exact ih (acc.push b)
theorem foldl_push (l : List UInt8) : ∀ (acc : ByteArray), l.foldl (fun s b => s.push b) acc = acc ++ bs l := by
  induction l with
  | nil => intro acc; apply ByteArray.ext; simp [bs]
  | cons b r ih =>
    intro acc
    rw [List.foldl_cons, ih]
    apply ByteArray.ext
    simp [bs, ByteArray.push]

theorem conv_ok {s d : TypeId} {x : Arg} (h : vcI P (trConv P s d x) ρ w k) : ∃ v w', (convert s d (x.ev ρ)).run P w = .ok v w' ∧ k v w' := by
  unfold trConv at h
  split at h
  · rename_i hs hd
    obtain ⟨v, hv, hk⟩ := seqO_ex h
    refine ⟨v, w, ?_, hk⟩
    unfold cviV at hv
    split at hv <;> first | (cases hv; done) | skip
    rename_i hx
    injection hv with hv; subst hv
    simp only [convert, Sem.run_bind, run_underlying hs, run_underlying hd, Result.andThen_ok, hx]
    rfl
  · rename_i hs hd
    obtain ⟨v, hv, hk⟩ := seqO_ex h
    refine ⟨v, w, ?_, hk⟩
    unfold cssV at hv
    split at hv <;> first | (cases hv; done) | skip
    rename_i hx
    injection hv with hv; subst hv
    simp only [convert, Sem.run_bind, run_underlying hs, run_underlying hd, Result.andThen_ok, hx]
    rfl
  · rename_i e hs hd
    split at h
    · rename_i he
      replace h : cvBSP w (x.ev ρ) (fun v => k v w) := h
      unfold cvBSP at h
      split at h
      · rename_i hx
        refine ⟨_, w, ?_, h⟩
        simp only [convert, Sem.run_bind, run_underlying hs, run_underlying hd, run_underlying he, Result.andThen_ok, hx, Conv.bytesToString]
        rfl
      · rename_i a n c hx
        obtain ⟨l, hl, hlds, hk⟩ := h
        refine ⟨_, w, ?_, hk⟩
        have hld : (loadCells a n).run P w = .ok (l.map fun b => Value.int .u8 b.toNat).toArray w := by
          have := lds_run (P := P) a n 0 _ #[] hlds
          simpa [loadCells] using this
        simp only [convert, Sem.run_bind, run_underlying hs, run_underlying hd, run_underlying he, Result.andThen_ok, hx, Conv.bytesToString, hld]
        rw [List.forIn_toArray]
        have hf := forIn_bytes (P := P) (w := w) l ByteArray.empty
        rw [foldl_push] at hf
        have e : ByteArray.empty ++ bs l = bs l := by apply ByteArray.ext; simp [bs]
        rw [e] at hf
        exact congrArg (fun (r : Result ByteArray) => r.andThen fun a w' => Sem.run P (pure (Value.string a)) w') hf
      · exact h.elim
    · exact h.elim
  · exact h.elim

theorem zOf_run {t : TypeId} {z : List Value} (h : zOf P t = some z) : ∃ v, v.cells.toList = z ∧ ∀ w, (zeroValue t).run P w = .ok v w := by
  unfold zOf at h
  simp only [Option.bind_eq_some_iff, Option.map_eq_some_iff] at h
  obtain ⟨i, hi, v, hv, rfl⟩ := h
  exact ⟨v, rfl, fun w => by simp [zeroValue, typeInfo, hi, hv]⟩
theorem new_eq (w : World) (v : Value) (l : List Value) (t : TypeId) (h : v.cells.toList = l) : w.alloc (.cells v.cells t) = new w l t := by
  subst h
  unfold new
  rw [Array.toArray_toList]
theorem alloc_ok {t : TypeId} {z : List Value} (h : zOf P t = some z) : (Instr.alloc t true (.tuple #[])).run P w = .ok (.pointer (some ⟨size w, 0, none⟩)) (new w z t) := by
  obtain ⟨v, hv, hr⟩ := zOf_run h
  rw [← new_eq w v z t hv]
  simp only [Instr.alloc, Sem.run_bind, hr w, Result.andThen_ok]
  rfl
theorem box_ok {t : TypeId} {v : Value} : (Instr.box t v).run P w = .ok (.pointer (some ⟨size w, 0, none⟩)) (new w (cellsV v) t) := by
  rw [← new_eq w v _ t (cells_eq v)]
  rfl

/-- fill is lay. -/
theorem foldl_set (vs : List Value) : ∀ (cells : Array Value) (off j : Nat), off + j + vs.length ≤ cells.size →
    ((vs.zipIdx j).foldl (fun cs (x : Value × Nat) => cs.setIfInBounds (off + x.2) x.1) cells).toList = cells.toList.take (off + j) ++ vs ++ cells.toList.drop (off + j + vs.length) := by
  induction vs with
  | nil => intro cells off j _; simp
  | cons v r ih =>
    intro cells off j h
    simp only [List.zipIdx_cons, List.foldl_cons]
    simp only [List.length_cons] at h
    rw [ih _ off (j + 1) (by simp; omega)]
    have h1 := list_seg_step cells.toList (off + j) v r (by simp; omega)
    simpa [Array.toList_setIfInBounds, Nat.add_assoc] using h1
theorem fill_ok (place : Nat → Option (Nat × Nat)) : ∀ (ps : List (Nat × Operand)) (l : List (Nat × Nat × Arg)) (z : Array Value) (r : List Value),
    plA P N place ps = some l → lay z.toList (layA ρ l) = some r → Instr.fill place z (ps.map fun p => (p.1, (act N ρ).eval p.2)) = some r.toArray
  | [], l, z, r, h, hr => by
    injection h with h; subst h
    simp only [layA, List.map_nil, lay] at hr
    injection hr with hr; subst hr
    simp [Instr.fill]
  | (i, x) :: ps, l, z, r, h, hr => by
    simp only [plA, Option.bind_eq_some_iff, Option.map_eq_some_iff] at h
    obtain ⟨a, ha, ⟨off, n⟩, hp, l', hl', rfl⟩ := h
    simp only [layA, List.map_cons, lay] at hr
    split at hr
    · rename_i hc
      obtain ⟨c1, c2⟩ := hc
      have hsz : ((act N ρ).eval x).cells.size = n := by rw [trA_ev ha, ← Array.length_toList, cells_eq]; exact c1
      have hlen : z.toList.length = z.size := by simp
      simp only [Instr.fill, List.map_cons, hp]
      rw [if_neg (by simp [hsz]; omega)]
      have hf := foldl_set (cellsV (a.ev ρ)) z off 0 (by simp only [Nat.add_zero, c1]; omega)
      simp only [Nat.add_zero, c1] at hf
      refine fill_ok place ps l' _ r hl' ?_
      have e : (((act N ρ).eval x).cells.zipIdx.foldl (fun cs (x : Value × Nat) => cs.setIfInBounds (off + x.2) x.1) z).toList = z.toList.take off ++ cellsV (a.ev ρ) ++ z.toList.drop (off + n) := by
        rw [← hf, trA_ev ha, ← Array.foldl_toList, Array.toList_zipIdx, cells_eq]
      rw [e]
      exact hr
    · cases hr
end
end Go.Proofs.YtmgdkoidgoihfaaGreatDoor.E
