/- The walks of the functions, printed by a program of this proof, each held against the loaded program by the kernel. Conditions: none. -/
import Derived.Test.YtgijohcmkipkhaaDoorProg
import Derived.Test.YtgijohcmkipkhaaDoorF6
namespace Go.Proofs.YtgijohcmkipkhaaDoor
open E
set_option maxRecDepth 100000
set_option linter.unusedVariables false

/- strings.IndexAny -/
def F52 (s_0 chars_1 : Value) (s : AS) (k : Value → AS → Prop) : Prop :=
 kJoin (fun _ s =>
 kJoin (fun _ s =>
 kJoin (fun _ s =>
 kJoin (fun _ s =>
 k (.int .i64 (-1)) s) fun J4 =>
 kGen Tryd.prog (.rng 9) [s_0] s fun v45 s =>
 kLoop (fun again5 _ s =>
 kGen Tryd.prog (.nxt true 0) [v45] s fun v46 s =>
 kExt 0 v46 fun v47 =>
 kJoin (fun _ s =>
 kExt 1 v46 fun v48 =>
 kExt 2 v46 fun v49 =>
 kCall Tryd.prog 64 [chars_1, v49] s fun v52 s =>
 kBin .geq v52 (.int .i64 0) fun v53 =>
 kCond v53 (
 k v48 s) (
 again5 [] s)) fun J6 =>
 kCond v47 (
 J6 [] s) (
 J4 [] s)) [] s) fun J3 =>
 kLen true s_0 fun v25 =>
 kCall Tryd.prog 65 [v25] s fun v26 s =>
 kCond v26 (
 kCall Tryd.prog 45 [chars_1] s fun v29 s =>
 kExt 0 v29 fun v30 =>
 kExt 1 v29 fun v31 =>
 kNew s (List.replicate 256 (.bool false)) fun as_6 s =>
 kSt s 256 as_6 v30 fun s =>
 kCond v31 (
 kJoin (fun _ s =>
 k (.int .i64 (-1)) s) fun J7 =>
 kLoop (fun again8 xs s =>
 un1 xs fun i_8 =>
 kJoin (fun _ s =>
 kJoin (fun _ s =>
 kBin .add i_8 (.int .i64 1) fun v38 =>
 again8 [v38] s) fun J10 =>
 kIxS s_0 i_8 fun v41 =>
 kCall Tryd.prog 59 [as_6, v41] s fun v42 s =>
 kCond v42 (
 k i_8 s) (
 J10 [] s)) fun J9 =>
 kLen true s_0 fun v35 =>
 kBin .lss i_8 v35 fun v36 =>
 kCond v36 (
 J9 [] s) (
 J7 [] s)) [(.int .i64 0)] s) (
 J3 [] s)) (
 J3 [] s)) fun J2 =>
 kLen true chars_1 fun v14 =>
 kBin .eql v14 (.int .i64 1) fun v15 =>
 kCond v15 (
 kIxS chars_1 (.int .i64 0) fun v17 =>
 kCvi .i32 v17 fun v18 =>
 kJoin (fun xs s =>
 un1 xs fun r_5 =>
 kCall Tryd.prog 64 [s_0, r_5] s fun v23 s =>
 k v23 s) fun J11 =>
 kBin .geq v18 (.int .i32 128) fun v20 =>
 kCond v20 (
 J11 [(.int .i32 65533)] s) (
 J11 [v18] s)) (
 J2 [] s)) fun J1 =>
 kBin .eql chars_1 (.string (bs [])) fun v12 =>
 kCond v12 (
 k (.int .i64 (-1)) s) (
 J1 [] s)
theorem F52_ok (s_0 chars_1 : Value) (s : AS) (k : Value → AS → Prop) : denFn Tryd.prog [] 52 [s_0, chars_1] s k = F52 s_0 chars_1 s k := by kernel_rfl
theorem f52 {s_0 chars_1 : Value} {s : AS} {k : Value → AS → Prop} (h : F52 s_0 chars_1 s k) : kCall Tryd.prog 52 [s_0, chars_1] s k := denFn_ok [] (cast (F52_ok s_0 chars_1 s k).symm h)
theorem k52_ok : okFn Tryd.prog 52 = true := by kernel_rfl

/- unicode utf8.ValidRune -/
def F70 (r_0 : Value) (s : AS) (k : Value → AS → Prop) : Prop :=
 kJoin (fun _ s =>
 k (.bool false) s) fun J1 =>
 kBin .leq (.int .i32 0) r_0 fun v5 =>
 kGrd v5 true (fun k =>
 kBin .lss r_0 (.int .i32 55296) fun v8 =>
 k [v8] s) [undef] s fun xs s =>
 un1 xs fun v8 =>
 kPick v5 v8 (.bool false) fun v9 =>
 kCond v9 (
 k (.bool true) s) (
 kBin .lss (.int .i32 57343) r_0 fun v12 =>
 kGrd v12 true (fun k =>
 kBin .leq r_0 (.int .i32 1114111) fun v15 =>
 k [v15] s) [undef] s fun xs s =>
 un1 xs fun v15 =>
 kPick v12 v15 (.bool false) fun v16 =>
 kCond v16 (
 k (.bool true) s) (
 J1 [] s))
theorem F70_ok (r_0 : Value) (s : AS) (k : Value → AS → Prop) : denFn Tryd.prog [] 70 [r_0] s k = F70 r_0 s k := by kernel_rfl
theorem f70 {r_0 : Value} {s : AS} {k : Value → AS → Prop} (h : F70 r_0 s k) : kCall Tryd.prog 70 [r_0] s k := denFn_ok [] (cast (F70_ok r_0 s k).symm h)
theorem k70_ok : okFn Tryd.prog 70 = true := by kernel_rfl

end Go.Proofs.YtgijohcmkipkhaaDoor
