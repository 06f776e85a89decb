/- Functions by their number. Conditions: none. -/
import Derived.Test.YtmgdkoidgoihfaaGreatDoorF2
namespace Go.Proofs.YtmgdkoidgoihfaaGreatDoor.E
open Go.RowKit

def denFn (P : Program) (hints : Hints) (f : Nat) (args : List Value) (s : AS) (k : Value → AS → Prop) : Prop :=
  match trF P hints f with
  | some sf => if args.length = sf.k then denF P sf args s k else False
  | none => False
theorem denFn_ok {P : Program} (hints : Hints) {f : Nat} {args : List Value} {s : AS} {k : Value → AS → Prop} (h : denFn P hints f args s k) : kCall P f args s k := by
  unfold denFn at h
  split at h
  · rename_i sf hf
    split at h
    · rename_i ha; exact denF_ok hf ha h
    · exact h.elim
  · exact h.elim
/-- A function by its printed walk. -/
theorem fn_by {P : Program} {hints : Hints} {f : Nat} {args : List Value} {s : AS} {k : Value → AS → Prop} {A : Prop} (e : denFn P hints f args s k = A) (h : A) : kCall P f args s k := denFn_ok hints (e.symm ▸ h)

/-- Does the function put nothing off itself? -/
def quietB (P : Program) (hints : Hints) (f : Nat) : Bool := match trF P hints f with
  | some sf => !(wrS sf.body).contains sf.n
  | none => false
/-- A function that is called at an end, by its printed walk. -/
theorem fnD_by {P : Program} {hints : Hints} {f : Nat} {args : List Value} {s : AS} {k : AS → Prop} {A : Prop} (hq : quietB P hints f = true) (e : denFn P hints f args s (fun _ s => k s) = A) (h : A) : kDfr P f args s k := by
  rw [← e] at h
  unfold denFn at h
  unfold quietB at hq
  split at h
  · rename_i sf hf
    rw [hf] at hq
    split at h
    · rename_i ha; exact denF_okD hf ha (by simpa using hq) h
    · exact h.elim
  · exact h.elim
/-- A call is put off. -/
theorem dfr_by {P : Program} {g : Nat} {a b : Array Value} {m : Value} {s : AS} {k : Value → AS → Prop} (h : k (consM (.func (.func g) a b) m) s) : kGen P .dfr [.func (.func g) a b, m] s k :=
  fun w hw => ⟨_, w, rfl, Out.same hw h⟩

/-! Values out of a list -/
def un1 (xs : List Value) (k : Value → Prop) (_ : Dm k := ()) : Prop := k (gv xs 0)
theorem un1_l (a0 : Value) (k : Value → Prop) : un1 [a0] k = k a0 := rfl
def un2 (xs : List Value) (k : Value → Value → Prop) (_ : Dm k := ()) : Prop := k (gv xs 0) (gv xs 1)
theorem un2_l (a0 a1 : Value) (k : Value → Value → Prop) : un2 [a0, a1] k = k a0 a1 := rfl
def un3 (xs : List Value) (k : Value → Value → Value → Prop) (_ : Dm k := ()) : Prop := k (gv xs 0) (gv xs 1) (gv xs 2)
theorem un3_l (a0 a1 a2 : Value) (k : Value → Value → Value → Prop) : un3 [a0, a1, a2] k = k a0 a1 a2 := rfl
def un4 (xs : List Value) (k : Value → Value → Value → Value → Prop) (_ : Dm k := ()) : Prop := k (gv xs 0) (gv xs 1) (gv xs 2) (gv xs 3)
theorem un4_l (a0 a1 a2 a3 : Value) (k : Value → Value → Value → Value → Prop) : un4 [a0, a1, a2, a3] k = k a0 a1 a2 a3 := rfl
def un5 (xs : List Value) (k : Value → Value → Value → Value → Value → Prop) (_ : Dm k := ()) : Prop := k (gv xs 0) (gv xs 1) (gv xs 2) (gv xs 3) (gv xs 4)
theorem un5_l (a0 a1 a2 a3 a4 : Value) (k : Value → Value → Value → Value → Value → Prop) : un5 [a0, a1, a2, a3, a4] k = k a0 a1 a2 a3 a4 := rfl
def un6 (xs : List Value) (k : Value → Value → Value → Value → Value → Value → Prop) (_ : Dm k := ()) : Prop := k (gv xs 0) (gv xs 1) (gv xs 2) (gv xs 3) (gv xs 4) (gv xs 5)
theorem un6_l (a0 a1 a2 a3 a4 a5 : Value) (k : Value → Value → Value → Value → Value → Value → Prop) : un6 [a0, a1, a2, a3, a4, a5] k = k a0 a1 a2 a3 a4 a5 := rfl
def un7 (xs : List Value) (k : Value → Value → Value → Value → Value → Value → Value → Prop) (_ : Dm k := ()) : Prop := k (gv xs 0) (gv xs 1) (gv xs 2) (gv xs 3) (gv xs 4) (gv xs 5) (gv xs 6)
theorem un7_l (a0 a1 a2 a3 a4 a5 a6 : Value) (k : Value → Value → Value → Value → Value → Value → Value → Prop) : un7 [a0, a1, a2, a3, a4, a5, a6] k = k a0 a1 a2 a3 a4 a5 a6 := rfl
def un8 (xs : List Value) (k : Value → Value → Value → Value → Value → Value → Value → Value → Prop) (_ : Dm k := ()) : Prop := k (gv xs 0) (gv xs 1) (gv xs 2) (gv xs 3) (gv xs 4) (gv xs 5) (gv xs 6) (gv xs 7)
theorem un8_l (a0 a1 a2 a3 a4 a5 a6 a7 : Value) (k : Value → Value → Value → Value → Value → Value → Value → Value → Prop) : un8 [a0, a1, a2, a3, a4, a5, a6, a7] k = k a0 a1 a2 a3 a4 a5 a6 a7 := rfl
def un9 (xs : List Value) (k : Value → Value → Value → Value → Value → Value → Value → Value → Value → Prop) (_ : Dm k := ()) : Prop := k (gv xs 0) (gv xs 1) (gv xs 2) (gv xs 3) (gv xs 4) (gv xs 5) (gv xs 6) (gv xs 7) (gv xs 8)
theorem un9_l (a0 a1 a2 a3 a4 a5 a6 a7 a8 : Value) (k : Value → Value → Value → Value → Value → Value → Value → Value → Value → Prop) : un9 [a0, a1, a2, a3, a4, a5, a6, a7, a8] k = k a0 a1 a2 a3 a4 a5 a6 a7 a8 := rfl
def un10 (xs : List Value) (k : Value → Value → Value → Value → Value → Value → Value → Value → Value → Value → Prop) (_ : Dm k := ()) : Prop := k (gv xs 0) (gv xs 1) (gv xs 2) (gv xs 3) (gv xs 4) (gv xs 5) (gv xs 6) (gv xs 7) (gv xs 8) (gv xs 9)
theorem un10_l (a0 a1 a2 a3 a4 a5 a6 a7 a8 a9 : Value) (k : Value → Value → Value → Value → Value → Value → Value → Value → Value → Value → Prop) : un10 [a0, a1, a2, a3, a4, a5, a6, a7, a8, a9] k = k a0 a1 a2 a3 a4 a5 a6 a7 a8 a9 := rfl
def un11 (xs : List Value) (k : Value → Value → Value → Value → Value → Value → Value → Value → Value → Value → Value → Prop) (_ : Dm k := ()) : Prop := k (gv xs 0) (gv xs 1) (gv xs 2) (gv xs 3) (gv xs 4) (gv xs 5) (gv xs 6) (gv xs 7) (gv xs 8) (gv xs 9) (gv xs 10)
theorem un11_l (a0 a1 a2 a3 a4 a5 a6 a7 a8 a9 a10 : Value) (k : Value → Value → Value → Value → Value → Value → Value → Value → Value → Value → Value → Prop) : un11 [a0, a1, a2, a3, a4, a5, a6, a7, a8, a9, a10] k = k a0 a1 a2 a3 a4 a5 a6 a7 a8 a9 a10 := rfl
def un12 (xs : List Value) (k : Value → Value → Value → Value → Value → Value → Value → Value → Value → Value → Value → Value → Prop) (_ : Dm k := ()) : Prop := k (gv xs 0) (gv xs 1) (gv xs 2) (gv xs 3) (gv xs 4) (gv xs 5) (gv xs 6) (gv xs 7) (gv xs 8) (gv xs 9) (gv xs 10) (gv xs 11)
theorem un12_l (a0 a1 a2 a3 a4 a5 a6 a7 a8 a9 a10 a11 : Value) (k : Value → Value → Value → Value → Value → Value → Value → Value → Value → Value → Value → Value → Prop) : un12 [a0, a1, a2, a3, a4, a5, a6, a7, a8, a9, a10, a11] k = k a0 a1 a2 a3 a4 a5 a6 a7 a8 a9 a10 a11 := rfl
def un13 (xs : List Value) (k : Value → Value → Value → Value → Value → Value → Value → Value → Value → Value → Value → Value → Value → Prop) (_ : Dm k := ()) : Prop := k (gv xs 0) (gv xs 1) (gv xs 2) (gv xs 3) (gv xs 4) (gv xs 5) (gv xs 6) (gv xs 7) (gv xs 8) (gv xs 9) (gv xs 10) (gv xs 11) (gv xs 12)
theorem un13_l (a0 a1 a2 a3 a4 a5 a6 a7 a8 a9 a10 a11 a12 : Value) (k : Value → Value → Value → Value → Value → Value → Value → Value → Value → Value → Value → Value → Value → Prop) : un13 [a0, a1, a2, a3, a4, a5, a6, a7, a8, a9, a10, a11, a12] k = k a0 a1 a2 a3 a4 a5 a6 a7 a8 a9 a10 a11 a12 := rfl
def un14 (xs : List Value) (k : Value → Value → Value → Value → Value → Value → Value → Value → Value → Value → Value → Value → Value → Value → Prop) (_ : Dm k := ()) : Prop := k (gv xs 0) (gv xs 1) (gv xs 2) (gv xs 3) (gv xs 4) (gv xs 5) (gv xs 6) (gv xs 7) (gv xs 8) (gv xs 9) (gv xs 10) (gv xs 11) (gv xs 12) (gv xs 13)
theorem un14_l (a0 a1 a2 a3 a4 a5 a6 a7 a8 a9 a10 a11 a12 a13 : Value) (k : Value → Value → Value → Value → Value → Value → Value → Value → Value → Value → Value → Value → Value → Value → Prop) : un14 [a0, a1, a2, a3, a4, a5, a6, a7, a8, a9, a10, a11, a12, a13] k = k a0 a1 a2 a3 a4 a5 a6 a7 a8 a9 a10 a11 a12 a13 := rfl
def un15 (xs : List Value) (k : Value → Value → Value → Value → Value → Value → Value → Value → Value → Value → Value → Value → Value → Value → Value → Prop) (_ : Dm k := ()) : Prop := k (gv xs 0) (gv xs 1) (gv xs 2) (gv xs 3) (gv xs 4) (gv xs 5) (gv xs 6) (gv xs 7) (gv xs 8) (gv xs 9) (gv xs 10) (gv xs 11) (gv xs 12) (gv xs 13) (gv xs 14)
theorem un15_l (a0 a1 a2 a3 a4 a5 a6 a7 a8 a9 a10 a11 a12 a13 a14 : Value) (k : Value → Value → Value → Value → Value → Value → Value → Value → Value → Value → Value → Value → Value → Value → Value → Prop) : un15 [a0, a1, a2, a3, a4, a5, a6, a7, a8, a9, a10, a11, a12, a13, a14] k = k a0 a1 a2 a3 a4 a5 a6 a7 a8 a9 a10 a11 a12 a13 a14 := rfl
def un16 (xs : List Value) (k : Value → Value → Value → Value → Value → Value → Value → Value → Value → Value → Value → Value → Value → Value → Value → Value → Prop) (_ : Dm k := ()) : Prop := k (gv xs 0) (gv xs 1) (gv xs 2) (gv xs 3) (gv xs 4) (gv xs 5) (gv xs 6) (gv xs 7) (gv xs 8) (gv xs 9) (gv xs 10) (gv xs 11) (gv xs 12) (gv xs 13) (gv xs 14) (gv xs 15)
theorem un16_l (a0 a1 a2 a3 a4 a5 a6 a7 a8 a9 a10 a11 a12 a13 a14 a15 : Value) (k : Value → Value → Value → Value → Value → Value → Value → Value → Value → Value → Value → Value → Value → Value → Value → Value → Prop) : un16 [a0, a1, a2, a3, a4, a5, a6, a7, a8, a9, a10, a11, a12, a13, a14, a15] k = k a0 a1 a2 a3 a4 a5 a6 a7 a8 a9 a10 a11 a12 a13 a14 a15 := rfl
end Go.Proofs.YtmgdkoidgoihfaaGreatDoor.E
