/- Structs of numbers, bools and strings, compared. Conditions: as each theorem says. -/
import Derived.Test.YtkbpbagjbjkpmaaGreatDoorF8
import Derived.Laws.StructEq
import Derived.ChangeKeysEq
namespace Go.Proofs.YtkbpbagjbjkpmaaGreatDoor.E
open Go.RowKit Go.Lib
set_option linter.unusedVariables false
set_option linter.unusedSimpArgs false

inductive L1 where
  | i (k : IntKind) (n : Int)
  | b (x : Bool)
  | s (l : List UInt8)
  deriving DecidableEq
inductive Kd where
  | i (k : IntKind)
  | b
  | s
def L1.val : L1 → Value
  | .i k n => .int k n
  | .b x => .bool x
  | .s l => .string (bs l)
def L1.kd : L1 → Kd
  | .i k _ => .i k
  | .b _ => .b
  | .s _ => .s
def fitK (P : Program) : Nat → List Field → List Kd → Bool
  | _, [], [] => true
  | o, f :: fs, k :: ks => f.offset == o && f.name != "_" && P.plainKey f.type && (match P.underlying f.type, k with | some (.int j), .i j' => j == j' | some .bool, .b => true | some .string, .s => true | _, _ => false) && fitK P (o + 1) fs ks
  | _, _, _ => false
def fitS (P : Program) (t : TypeId) (ks : List Kd) : Bool := !P.eqGuardType P.depth t && !P.stoodInHeld t && (match P.underlying t with | some (.struct fs) => fitK P 0 fs.toList ks | _ => false)
section
variable {P : Program} {w : World} {σ : AS} {K : Value → AS → Prop}
theorem eqFields_flat (d : Nat) : ∀ (fs : List Field) (ks : List Kd) (ls ms : List L1) (pre pre' : List Value) (o : Nat), pre.length = o → pre'.length = o → fitK P o fs ks = true → ls.map L1.kd = ks → ms.map L1.kd = ks →
    (Op.eqFields (d + 1) (pre ++ ls.map L1.val).toArray (pre' ++ ms.map L1.val).toArray fs).run P w = .ok (decide (ls = ms)) w
  | [], [], ls, ms, _, _, _, _, _, _, h1, h2 => by
    obtain rfl := List.map_eq_nil_iff.1 h1
    obtain rfl := List.map_eq_nil_iff.1 h2
    simp [Op.eqFields]
  | f :: fs, k :: ks, [], ms, _, _, _, _, _, _, h1, _ => by cases h1
  | f :: fs, k :: ks, _ :: _, [], _, _, _, _, _, _, _, h2 => by cases h2
  | f :: fs, k :: ks, l :: ls, m :: ms, pre, pre', o, hp, hp', hf, h1, h2 => by
    simp only [fitK, Bool.and_eq_true, beq_iff_eq, bne_iff_ne, ne_eq] at hf
    obtain ⟨⟨⟨⟨ho, hn⟩, hpl⟩, hk⟩, hr⟩ := hf
    simp only [List.map_cons, List.cons.injEq] at h1 h2
    have g1 : (pre ++ (l :: ls).map L1.val).toArray[f.offset]? = some l.val := by simp [ho, ← hp]
    have g2 : (pre' ++ (m :: ms).map L1.val).toArray[f.offset]? = some m.val := by simp [ho, ← hp']
    have ih := eqFields_flat d fs ks ls ms (pre ++ [l.val]) (pre' ++ [m.val]) (o + 1) (by simp [hp]) (by simp [hp']) hr h1.2 h2.2
    simp only [List.append_assoc, List.singleton_append] at ih
    have he : (Op.equalIn (d + 1) f.type l.val m.val).run P w = .ok (decide (l = m)) w := by
      split at hk
      · rename_i j j' hu
        have hj : j = j' := by simpa using hk
        subst hj
        cases l <;> cases m <;> simp only [L1.kd, reduceCtorEq, false_and, and_false] at h1 h2
        rename_i k1 n1 k2 n2
        have e1 : k1 = j := by injection h1.1
        have e2 : k2 = j := by injection h2.1
        subst e1
        subst e2
        rw [L1.val, L1.val, run_equalIn_int w d f.type _ _ n1 n2 hu]
        congr 1
        by_cases h : n1 = n2 <;> simp [h]
      · rename_i hu
        cases l <;> cases m <;> simp only [L1.kd, reduceCtorEq, false_and, and_false] at h1 h2
        rename_i x y
        rw [L1.val, L1.val, run_equalIn_bool' w d f.type x y hu]
        congr 1
        by_cases h : x = y <;> simp [h]
      · rename_i hu
        cases l <;> cases m <;> simp only [L1.kd, reduceCtorEq, false_and, and_false] at h1 h2
        rename_i x y
        rw [L1.val, L1.val, run_equalIn_string w d f.type _ _ hu]
        congr 1
        have e : ∀ z : List UInt8, (bs z).toList = z := fun z => by rw [ByteArray.toList_eq]; simp [bs]
        rw [e, e]
        by_cases h : x = y <;> simp [h]
      · cases hk
    simp only [Op.eqFields, hn, ne_eq, not_false_eq_true, if_true, Sem.run_bind, run_part_plain w hpl g1, run_part_plain w hpl g2, he, Result.andThen_ok]
    by_cases h : l = m
    · subst h
      simp only [decide_true, Bool.not_true, Bool.false_eq_true, if_false, List.map_cons, ih]
      congr 1
      simp
    · simp [h]
theorem eqS_run {t : TypeId} {ks : List Kd} (hf : fitS P t ks = true) (ls ms : List L1) (h1 : ls.map L1.kd = ks) (h2 : ms.map L1.kd = ks) (x y : Operand) (w : World) :
    (eqGuard .eql t x y (.agg (ls.map L1.val).toArray) (.agg (ms.map L1.val).toArray)).run P w = .ok () w ∧ (eqGuard .neq t x y (.agg (ls.map L1.val).toArray) (.agg (ms.map L1.val).toArray)).run P w = .ok () w ∧
    (Op.equalIn 10000 t (.agg (ls.map L1.val).toArray) (.agg (ms.map L1.val).toArray)).run P w = .ok (decide (ls = ms)) w := by
  unfold fitS at hf
  simp only [Bool.and_eq_true, Bool.not_eq_true'] at hf
  obtain ⟨⟨hg, hs⟩, hfs⟩ := hf
  split at hfs
  · rename_i fs hu
    have hfo : P.fieldsOf t = fs := by simp [Program.fieldsOf, hu]
    refine ⟨run_eqGuard_agg w .eql t x y _ _ hg, run_eqGuard_agg w .neq t x y _ _ hg, ?_⟩
    rw [show (10000 : Nat) = 9998 + 1 + 1 from rfl, run_equalIn_struct w (9998 + 1) t _ _ (by rw [hfo]; exact hu) hs, hfo]
    have := eqFields_flat (P := P) (w := w) 9998 fs.toList ks ls ms [] [] 0 rfl rfl hfs h1 h2
    simpa using this
  · cases hfs
theorem seq_by {t : TypeId} {x y : Operand} {ks : List Kd} (hf : fitS P t ks = true) (ls ms : List L1) (h1 : ls.map L1.kd = ks) (h2 : ms.map L1.kd = ks) (hK : K (.bool (decide (ls = ms))) σ) :
    kGen P (.bop .eql t x y) [.agg (ls.map L1.val).toArray, .agg (ms.map L1.val).toArray] σ K := by
  intro w hw
  obtain ⟨h3, _, h4⟩ := eqS_run hf ls ms h1 h2 x y w
  refine ⟨_, w, ?_, Out.same hw hK⟩
  simp only [lkSem, Sem.run_bind, h3, Result.andThen_ok, run_eql_struct w t, h4]
theorem sne_by {t : TypeId} {x y : Operand} {ks : List Kd} (hf : fitS P t ks = true) (ls ms : List L1) (h1 : ls.map L1.kd = ks) (h2 : ms.map L1.kd = ks) (hK : K (.bool (!decide (ls = ms))) σ) :
    kGen P (.bop .neq t x y) [.agg (ls.map L1.val).toArray, .agg (ms.map L1.val).toArray] σ K := by
  intro w hw
  obtain ⟨_, h3, h4⟩ := eqS_run hf ls ms h1 h2 x y w
  refine ⟨_, w, ?_, Out.same hw hK⟩
  simp only [lkSem, Sem.run_bind, h3, Result.andThen_ok, run_neq_struct w t, h4]
end
end Go.Proofs.YtkbpbagjbjkpmaaGreatDoor.E
