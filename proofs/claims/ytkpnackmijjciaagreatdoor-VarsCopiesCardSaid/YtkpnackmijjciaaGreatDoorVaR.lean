/- Variables: a copy. Conditions: none. -/
import Derived.Test.YtkpnackmijjciaaGreatDoorVaQ
import Derived.Test.YtkpnackmijjciaaGreatDoorIf
import Derived.Test.YtkpnackmijjciaaGreatDoorC2
namespace Go.Proofs.YtkpnackmijjciaaGreatDoor
open E Go.Lib
set_option linter.unusedVariables false
set_option linter.unusedSimpArgs false
set_option maxHeartbeats 1000000
set_option maxRecDepth 20000

section
variable {σ σ' : AS} {X : Ce} {R : List Ck} {k : Value → AS → Prop} {v v2 m : Nat} {u av : Value} {zero n val s : Str} {ms l : List Str} {i q most : Int} {S S2 : VM} {w st : Bool} {x' : VV} {ops more : List OpV}
theorem mclone_c {L : List (Str × Value)} (h : Hs σ X (Mp (κ := Str) m none L :: R)) (hk : ∀ q σ', Hs σ' X (Mp (κ := Str) q none L :: Mp (κ := Str) m none L :: R) → k (.map (some q)) σ') :
    kCall Tryz.prog 52 [.map (some m)] σ k := by
  refine f52 ?_
  (simp (maxSteps := 1000000) (dsimp := false) (disch := (first | omega | (simp only [okR]; done) | (simp only [sizeR] <;> omega) | fail)) only [↓preR, postR, ↓w_join, Nat.reduceEqDiff, Nat.reduceAdd, Nat.reduceSub, Nat.reduceMul, Int.reduceNeg, Nat.reduceLT, Int.reduceToNat, Nat.reduceLeDiff, Nat.sub_zero, F52])
  refine mki_by (by kernel_rfl) ?_
  refine cln_by (by kernel_rfl) (by kernel_rfl) h fun q σ1 h1 => ?_
  refine tas_by (by kernel_rfl) ?_
  (try simp (maxSteps := 1000000) (dsimp := false) (disch := (first | omega | (simp only [okR]; done) | (simp only [sizeR] <;> omega) | fail)) only [↓preR, postR, ↓w_join, Nat.reduceEqDiff, Nat.reduceAdd, Nat.reduceSub, Nat.reduceMul, Int.reduceNeg, Nat.reduceLT, Int.reduceToNat, Nat.reduceLeDiff, Nat.sub_zero])
  exact hk _ _ h1
theorem copy_c (h : Hs σ X (Vm v zero S :: R)) (hal : S.ar.length ≤ 1000000) (hk : ∀ v' σ', Hs σ' X (Vm v' zero S :: Vm v zero S :: R) → k (pv v') σ') : kCall Tryz.prog 27 [pv v] σ k := by
  obtain ⟨av, m, h1⟩ := Vs.open h
  refine f27 ?_
  have h2 : Hs σ X (StrR av S.ar :: Cel v [.string (bs zero), av, .map (some m), .int .i64 S.st] :: Mp (κ := Str) m none (encL S.l) :: R) := h1.front 2 rfl
  obtain ⟨a, g, o, cap, rfl, _⟩ := StrR.get h2
  have h3 := (h1.new (cs := [.string (bs []), .slice none 0 0, .map none, .int .i64 0])).put (cs' := [.string (bs zero), .slice a S.ar.length cap, .map (some m), .int .i64 S.st])
  (simp (maxSteps := 1000000) (dsimp := false) (disch := (first | omega | (simp only [okR]; done) | (simp only [sizeR] <;> omega) | fail)) only [↓preR, postR, ↓w_join, Nat.reduceEqDiff, Nat.reduceAdd, Nat.reduceSub, Nat.reduceMul, Int.reduceNeg, Nat.reduceLT, Int.reduceToNat, Nat.reduceLeDiff, Nat.sub_zero, F27, h1.obj, h3.obj1])
  have h4 : Hs _ X (StrR (.slice a S.ar.length cap) S.ar :: Cel σ.n [.string (bs zero), .slice a S.ar.length cap, .map (some m), .int .i64 S.st] :: Cel v [.string (bs zero), .slice a S.ar.length cap, .map (some m), .int .i64 S.st] :: Mp (κ := Str) m none (encL S.l) :: R) := h3.front 3 rfl
  refine clone_c h4 (TxS.row h4) hal fun v' s1 h5 => ?_
  obtain ⟨a', g', o', cap', rfl, _⟩ := StrR.get h5
  have h6 : Hs s1 X (Cel σ.n [.string (bs zero), .slice a S.ar.length cap, .map (some m), .int .i64 S.st] :: StrR (.slice a' S.ar.length cap') S.ar :: StrR (.slice a S.ar.length cap) S.ar :: Cel v [.string (bs zero), .slice a S.ar.length cap, .map (some m), .int .i64 S.st] :: Mp (κ := Str) m none (encL S.l) :: R) := h5.front 2 rfl
  have h7 := h6.put (cs' := [.string (bs zero), .slice a' S.ar.length cap', .map (some m), .int .i64 S.st])
  (simp (maxSteps := 1000000) (dsimp := false) (disch := (first | omega | (simp only [okR]; done) | (simp only [sizeR] <;> omega) | fail)) only [↓preR, postR, ↓w_join, Nat.reduceEqDiff, Nat.reduceAdd, Nat.reduceSub, Nat.reduceMul, Int.reduceNeg, Nat.reduceLT, Int.reduceToNat, Nat.reduceLeDiff, Nat.sub_zero, h6.obj, (h7.front 3 rfl).obj])
  refine mclone_c (h7.front 4 rfl) fun q s2 h8 => ?_
  (simp (maxSteps := 1000000) (dsimp := false) (disch := (first | omega | (simp only [okR]; done) | (simp only [sizeR] <;> omega) | fail)) only [↓preR, postR, ↓w_join, Nat.reduceEqDiff, Nat.reduceAdd, Nat.reduceSub, Nat.reduceMul, Int.reduceNeg, Nat.reduceLT, Int.reduceToNat, Nat.reduceLeDiff, Nat.sub_zero, (h8.front 2 rfl).obj])
  have h9 := (h8.front 2 rfl).put (cs' := [.string (bs zero), .slice a' S.ar.length cap', .map (some q), .int .i64 S.st])
  have k1 : Hs _ X (Cel σ.n [.string (bs zero), .slice a' S.ar.length cap', .map (some q), .int .i64 S.st] :: Mp (κ := Str) q none (encL S.l) :: Mp (κ := Str) m none (encL S.l) :: StrR (.slice a' S.ar.length cap') S.ar :: StrR (.slice a S.ar.length cap) S.ar :: Cel v [.string (bs zero), .slice a S.ar.length cap, .map (some m), .int .i64 S.st] :: R) := h9
  have k2 : Hs _ X (Cel v [.string (bs zero), .slice a S.ar.length cap, .map (some m), .int .i64 S.st] :: Mp (κ := Str) m none (encL S.l) :: StrR (.slice a S.ar.length cap) S.ar :: Cel σ.n [.string (bs zero), .slice a' S.ar.length cap', .map (some q), .int .i64 S.st] :: Mp (κ := Str) q none (encL S.l) :: StrR (.slice a' S.ar.length cap') S.ar :: R) := ((k1.front 4 rfl).front 3 rfl).front 5 rfl
  have k3 := Vs.close k2
  have k4 : Hs _ X (Cel σ.n [.string (bs zero), .slice a' S.ar.length cap', .map (some q), .int .i64 S.st] :: Mp (κ := Str) q none (encL S.l) :: StrR (.slice a' S.ar.length cap') S.ar :: Vs v zero S.ar S.st S.l :: R) := ((k3.front 3 rfl).front 3 rfl).front 3 rfl
  exact hk _ _ (Vs.close k4)
theorem param0_c (h : Hs σ X (Vm v zero S :: R)) (hk : ∀ σ', Hs σ' X (Vm v zero S :: R) → k (.tuple #[.string (bs zero), .bool true]) σ') :
    kCall Tryz.prog 13 [pv v, .string (bs [48])] σ k := by
  obtain ⟨av, m, h1⟩ := Vs.open h
  have e1 : (([48] : List UInt8) = [35]) = False := by decide
  have e2 : (([48] : List UInt8) = [63]) = False := by decide
  have e3 : (([48] : List UInt8) = [64]) = False := by decide
  have e4 : (([48] : List UInt8) = [42]) = False := by decide
  refine f13 ?_
  (simp (maxSteps := 1000000) (dsimp := false) (disch := (first | omega | (simp only [okR]; done) | (simp only [sizeR] <;> omega) | fail)) only [↓preR, postR, ↓w_join, Nat.reduceEqDiff, Nat.reduceAdd, Nat.reduceSub, Nat.reduceMul, Int.reduceNeg, Nat.reduceLT, Int.reduceToNat, Nat.reduceLeDiff, Nat.sub_zero, F13, e1, e2, e3, e4])
  refine name_c (by unfold maxLen; decide) ?_
  rw [show nameB [48] = false from by kernel_rfl]
  (simp (maxSteps := 1000000) (dsimp := false) (disch := (first | omega | (simp only [okR]; done) | (simp only [sizeR] <;> omega) | fail)) only [↓preR, postR, ↓w_join, Nat.reduceEqDiff, Nat.reduceAdd, Nat.reduceSub, Nat.reduceMul, Int.reduceNeg, Nat.reduceLT, Int.reduceToNat, Nat.reduceLeDiff, Nat.sub_zero])
  refine f43 ?_
  have h2 : Hs σ X (StrR av S.ar :: Cel v [.string (bs zero), av, .map (some m), .int .i64 S.st] :: Mp (κ := Str) m none (encL S.l) :: R) := h1.front 2 rfl
  obtain ⟨a, g, o, cap, rfl, hle, hcm, _⟩ := StrR.get h2
  unfold maxLen at hcm
  (simp (maxSteps := 1000000) (dsimp := false) (disch := (first | omega | (simp only [okR]; done) | (simp only [sizeR] <;> omega) | fail)) only [↓preR, postR, ↓w_join, Nat.reduceEqDiff, Nat.reduceAdd, Nat.reduceSub, Nat.reduceMul, Int.reduceNeg, Nat.reduceLT, Int.reduceToNat, Nat.reduceLeDiff, Nat.sub_zero, F43, h1.obj])
  refine number_c (i := 0) h1 (by decide) (by decide) (by kernel_rfl) (by kernel_rfl) fun σ1 h3 => ?_
  rw [if_neg (by omega)]
  (simp (maxSteps := 1000000) (dsimp := false) (disch := (first | omega | (simp only [okR]; done) | (simp only [sizeR] <;> omega) | fail)) only [↓preR, postR, ↓w_join, Nat.reduceEqDiff, Nat.reduceAdd, Nat.reduceSub, Nat.reduceMul, Int.reduceNeg, Nat.reduceLT, Int.reduceToNat, Nat.reduceLeDiff, Nat.sub_zero, h3.obj])
  exact hk _ (Vs.close h3)
/-- A row of texts as a block. -/
theorem StrR.cel (h : Hs σ X (StrR u l :: R)) : (u = .slice none 0 0 ∧ l = []) ∨ ∃ g o cap cs, u = .slice (some ⟨g, o, none⟩) l.length cap ∧ l.length ≤ cap ∧ cap ≤ maxLen ∧ o + cap ≤ cs.length ∧ Hs σ X (Cel g cs :: R) := by
  obtain ⟨F, h1, hk⟩ := h.turn
  rcases h1 with ⟨h2, h3, rfl⟩ | ⟨g, o, cap, cs, h2, rfl, h3, h4, h5, h6, _⟩
  · exact .inl ⟨h2, h3⟩
  · exact .inr ⟨g, o, cap, cs, h2, h4, h5, h6, hk (F' := [g]) (Chg.refl _ _) ⟨rfl, h3⟩ (fun g hg => .inl hg)⟩
end
end Go.Proofs.YtkpnackmijjciaaGreatDoor
