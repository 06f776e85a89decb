/- The walks of the functions, printed by a program of this proof, each held against the loaded program by the kernel. Conditions: none. -/
import Derived.Test.YtkpnackmijjciaaDoorProg
import Derived.Test.YtkpnackmijjciaaDoorF6
namespace Go.Proofs.YtkpnackmijjciaaDoor
open E
set_option maxRecDepth 100000
set_option linter.unusedVariables false

/- conch conchlaw08.VarsReads -/
def F3 (ops_0 x_1 : Value) (s : AS) (k : Value → AS → Prop) : Prop :=
 kNew s (cellsV x_1) fun x_3 s =>
 kFld 0 x_3 fun v14 =>
 kLd s v14 fun v15 =>
 kJoin (fun _ s =>
 kCall Tryd.prog 6 [(.string (bs [115, 104])), (.slice none 0 0)] s fun v31 s =>
 kJoin (fun _ s =>
 kCall Tryd.prog 8 [v31, v15] s fun v42 s =>
 kExt 0 v42 fun v43 =>
 kExt 1 v42 fun v44 =>
 kCall Tryd.prog 9 [v31, v15] s fun v47 s =>
 kJoin (fun _ s =>
 kBin .eql v47 (.int .i64 0) fun v98 =>
 kGrd v98 false (fun k =>
 kBin .eql v47 (.int .i64 16) fun v101 =>
 k [v101] s) [undef] s fun xs s =>
 un1 xs fun v102 =>
 kGrd v102 true (fun k =>
 kUn .not v44 fun v104 =>
 k [v104] s) [undef] s fun xs s =>
 un1 xs fun v104 =>
 kGrd v98 false (fun k =>
 kPick v102 v104 (.bool false) fun v105 =>
 k [v105] s) [undef] s fun xs s =>
 un1 xs fun v105 =>
 kPick v98 (.bool true) v105 fun v106 =>
 kGrd v106 true (fun k =>
 kCall Tryd.prog 5 [] s fun v108 s =>
 k [v108] s) [undef] s fun xs s =>
 un1 xs fun v108 =>
 kPick v106 v108 (.bool false) fun v109 =>
 k v109 s) fun J3 =>
 kLoop (fun again4 xs s =>
 un1 xs fun i_10 =>
 kJoin (fun _ s =>
 kJoin (fun _ s =>
 kBin .add i_10 (.int .i64 1) fun v57 =>
 again4 [v57] s) fun J6 =>
 kIdx 5 ops_0 i_10 fun v61 =>
 kLdN s 5 v61 fun v62 =>
 kCall Tryd.prog 10 [v31, v62] s fun v63 s =>
 kJoin (fun _ s =>
 kCall Tryd.prog 8 [v31, v15] s fun v86 s =>
 kExt 0 v86 fun v87 =>
 kExt 1 v86 fun v88 =>
 kBin .neq v43 v87 fun v91 =>
 kGrd v91 false (fun k =>
 kEq 4 true v44 v88 fun v95 =>
 k [v95] s) [undef] s fun xs s =>
 un1 xs fun v95 =>
 kPick v91 (.bool true) v95 fun v96 =>
 kCond v96 (
 k (.bool false) s) (
 J6 [] s)) fun J7 =>
 kIdx 5 ops_0 i_10 fun v66 =>
 kFld 1 v66 fun v67 =>
 kLd s v67 fun v68 =>
 kBin .eql v68 v15 fun v70 =>
 kGrd v70 true (fun k =>
 kIdx 5 ops_0 i_10 fun v74 =>
 kLdN s 5 v74 fun v75 =>
 kCall Tryd.prog 11 [v75] s fun v76 s =>
 kBin .lss v76 (.int .i64 3) fun v77 =>
 k [v77] s) [undef] s fun xs s =>
 un1 xs fun v77 =>
 kPick v70 v77 (.bool false) fun v78 =>
 kGrd v78 true (fun k =>
 kBin .neq v63 (.int .i64 15) fun v81 =>
 k [v81] s) [undef] s fun xs s =>
 un1 xs fun v81 =>
 kPick v78 v81 (.bool false) fun v82 =>
 kCond v82 (
 k (.bool false) s) (
 J7 [] s)) fun J5 =>
 kLen false ops_0 fun v50 =>
 kBin .lss i_10 v50 fun v51 =>
 kGrd v51 true (fun k =>
 kBin .eql v47 (.int .i64 0) fun v54 =>
 k [v54] s) [undef] s fun xs s =>
 un1 xs fun v54 =>
 kPick v51 v54 (.bool false) fun v55 =>
 kCond v55 (
 J5 [] s) (
 J3 [] s)) [(.int .i64 0)] s) fun J2 =>
 kFld 2 x_3 fun v32 =>
 kLd s v32 fun v33 =>
 kCond v33 (
 kFld 1 x_3 fun v36 =>
 kLd s v36 fun v37 =>
 kCall Tryd.prog 7 [v31, v15, v37] s fun v38 s =>
 J2 [] s) (
 J2 [] s)) fun J1 =>
 kCall Tryd.prog 4 [ops_0] s fun v17 s =>
 kUn .not v17 fun v18 =>
 kGrd v18 false (fun k =>
 kLen true v15 fun v21 =>
 kBin .gtr v21 (.int .i64 200) fun v22 =>
 k [v22] s) [undef] s fun xs s =>
 un1 xs fun v22 =>
 kPick v18 (.bool true) v22 fun v23 =>
 kGrd v23 false (fun k =>
 kFld 1 x_3 fun v25 =>
 kLd s v25 fun v26 =>
 kLen true v26 fun v27 =>
 kBin .gtr v27 (.int .i64 200) fun v28 =>
 k [v28] s) [undef] s fun xs s =>
 un1 xs fun v28 =>
 kPick v23 (.bool true) v28 fun v29 =>
 kCond v29 (
 kCall Tryd.prog 5 [] s fun v30 s =>
 k v30 s) (
 J1 [] s)
theorem F3_ok (ops_0 x_1 : Value) (s : AS) (k : Value → AS → Prop) : denFn Tryd.prog [] 3 [ops_0, x_1] s k = F3 ops_0 x_1 s k := by kernel_rfl
theorem f3 {ops_0 x_1 : Value} {s : AS} {k : Value → AS → Prop} (h : F3 ops_0 x_1 s k) : kCall Tryd.prog 3 [ops_0, x_1] s k := denFn_ok [] (cast (F3_ok ops_0 x_1 s k).symm h)
theorem k3_ok : okFn Tryd.prog 3 = true := by kernel_rfl

/- conch conchlaw08.few -/
def F4 (l_0 : Value) (s : AS) (k : Value → AS → Prop) : Prop :=
 kJoin (fun _ s =>
 kJoin (fun _ s =>
 k (.bool true) s) fun J2 =>
 kLoop (fun again3 xs s =>
 un1 xs fun i_3 =>
 kJoin (fun _ s =>
 kJoin (fun _ s =>
 kBin .add i_3 (.int .i64 1) fun v12 =>
 again3 [v12] s) fun J5 =>
 kIdx 5 l_0 i_3 fun v15 =>
 kFld 1 v15 fun v16 =>
 kLd s v16 fun v17 =>
 kLen true v17 fun v18 =>
 kBin .gtr v18 (.int .i64 200) fun v19 =>
 kGrd v19 false (fun k =>
 kIdx 5 l_0 i_3 fun v23 =>
 kFld 2 v23 fun v24 =>
 kLd s v24 fun v25 =>
 kLen true v25 fun v26 =>
 kBin .gtr v26 (.int .i64 200) fun v27 =>
 k [v27] s) [undef] s fun xs s =>
 un1 xs fun v27 =>
 kPick v19 (.bool true) v27 fun v28 =>
 kGrd v28 false (fun k =>
 kIdx 5 l_0 i_3 fun v32 =>
 kFld 4 v32 fun v33 =>
 kLd s v33 fun v34 =>
 kCall Tryd.prog 12 [v34] s fun v35 s =>
 kUn .not v35 fun v36 =>
 k [v36] s) [undef] s fun xs s =>
 un1 xs fun v36 =>
 kPick v28 (.bool true) v36 fun v37 =>
 kCond v37 (
 k (.bool false) s) (
 J5 [] s)) fun J4 =>
 kLen false l_0 fun v9 =>
 kBin .lss i_3 v9 fun v10 =>
 kCond v10 (
 J4 [] s) (
 J2 [] s)) [(.int .i64 0)] s) fun J1 =>
 kLen false l_0 fun v5 =>
 kBin .gtr v5 (.int .i64 60) fun v6 =>
 kCond v6 (
 k (.bool false) s) (
 J1 [] s)
theorem F4_ok (l_0 : Value) (s : AS) (k : Value → AS → Prop) : denFn Tryd.prog [] 4 [l_0] s k = F4 l_0 s k := by kernel_rfl
theorem f4 {l_0 : Value} {s : AS} {k : Value → AS → Prop} (h : F4 l_0 s k) : kCall Tryd.prog 4 [l_0] s k := denFn_ok [] (cast (F4_ok l_0 s k).symm h)
theorem k4_ok : okFn Tryd.prog 4 = true := by kernel_rfl

/- conch conchlaw08.awake -/
def F5 (s : AS) (k : Value → AS → Prop) : Prop :=
 kBsl s 2 [(.string (bs [])), (.string (bs []))] [(0, 1, (.string (bs [97]))), (1, 1, (.string (bs [98])))] fun v14 s =>
 kCall Tryd.prog 6 [(.string (bs [115, 104])), v14] s fun v15 s =>
 kCall Tryd.prog 13 [v15, (.string (bs [49]))] s fun v18 s =>
 kExt 0 v18 fun v19 =>
 kExt 1 v18 fun v20 =>
 kCall Tryd.prog 13 [v15, (.string (bs [51]))] s fun v23 s =>
 kExt 0 v23 fun v24 =>
 kExt 1 v23 fun v25 =>
 kCall Tryd.prog 7 [v15, (.string (bs [120])), (.string (bs [49]))] s fun v27 s =>
 kCall Tryd.prog 9 [v15, (.string (bs [120]))] s fun v29 s =>
 kCall Tryd.prog 7 [v15, (.string (bs [120])), (.string (bs [50]))] s fun v31 s =>
 kCall Tryd.prog 8 [v15, (.string (bs [120]))] s fun v34 s =>
 kExt 0 v34 fun v35 =>
 kExt 1 v34 fun v36 =>
 kCall Tryd.prog 14 [v15, (.int .i64 3)] s fun v38 s =>
 kCall Tryd.prog 14 [v15, (.int .i64 1)] s fun v40 s =>
 kCall Tryd.prog 15 [v15] s fun v42 s =>
 kBin .eql v19 (.string (bs [97])) fun v44 =>
 kGrd v44 true (fun k =>
 k [v20] s) [undef] s fun xs s =>
 un1 xs fun v46 =>
 kPick v44 v46 (.bool false) fun v47 =>
 kGrd v47 true (fun k =>
 kUn .not v25 fun v50 =>
 k [v50] s) [undef] s fun xs s =>
 un1 xs fun v50 =>
 kPick v47 v50 (.bool false) fun v51 =>
 kGrd v51 true (fun k =>
 kBin .eql v27 (.int .i64 0) fun v54 =>
 k [v54] s) [undef] s fun xs s =>
 un1 xs fun v54 =>
 kPick v51 v54 (.bool false) fun v55 =>
 kGrd v55 true (fun k =>
 kBin .eql v29 (.int .i64 0) fun v58 =>
 k [v58] s) [undef] s fun xs s =>
 un1 xs fun v58 =>
 kPick v55 v58 (.bool false) fun v59 =>
 kGrd v59 true (fun k =>
 kBin .eql v31 (.int .i64 15) fun v62 =>
 k [v62] s) [undef] s fun xs s =>
 un1 xs fun v62 =>
 kPick v59 v62 (.bool false) fun v63 =>
 kGrd v63 true (fun k =>
 kBin .eql v35 (.string (bs [49])) fun v66 =>
 k [v66] s) [undef] s fun xs s =>
 un1 xs fun v66 =>
 kPick v63 v66 (.bool false) fun v67 =>
 kGrd v67 true (fun k =>
 k [v36] s) [undef] s fun xs s =>
 un1 xs fun v69 =>
 kPick v67 v69 (.bool false) fun v70 =>
 kGrd v70 true (fun k =>
 kBin .eql v38 (.int .i64 1) fun v73 =>
 k [v73] s) [undef] s fun xs s =>
 un1 xs fun v73 =>
 kPick v70 v73 (.bool false) fun v74 =>
 kGrd v74 true (fun k =>
 kBin .eql v40 (.int .i64 0) fun v77 =>
 k [v77] s) [undef] s fun xs s =>
 un1 xs fun v77 =>
 kPick v74 v77 (.bool false) fun v78 =>
 kGrd v78 true (fun k =>
 kLen false v42 fun v81 =>
 kBin .eql v81 (.int .i64 1) fun v82 =>
 k [v82] s) [undef] s fun xs s =>
 un1 xs fun v82 =>
 kPick v78 v82 (.bool false) fun v83 =>
 kGrd v83 true (fun k =>
 kIdx 1 v42 (.int .i64 0) fun v86 =>
 kLd s v86 fun v87 =>
 kBin .eql v87 (.string (bs [98])) fun v88 =>
 k [v88] s) [undef] s fun xs s =>
 un1 xs fun v88 =>
 kPick v83 v88 (.bool false) fun v89 =>
 k v89 s
theorem F5_ok (s : AS) (k : Value → AS → Prop) : denFn Tryd.prog [] 5 [] s k = F5 s k := by kernel_rfl
theorem f5 {s : AS} {k : Value → AS → Prop} (h : F5 s k) : kCall Tryd.prog 5 [] s k := denFn_ok [] (cast (F5_ok s k).symm h)
theorem k5_ok : okFn Tryd.prog 5 = true := by kernel_rfl

/- conch vars.New -/
def F6 (zero_0 args_1 : Value) (s : AS) (k : Value → AS → Prop) : Prop :=
 kCall Tryd.prog 16 [args_1] s fun v7 s =>
 kBuild [(.string (bs [])), (.slice none 0 0)] [(0, 1, zero_0), (1, 1, v7)] fun v8 =>
 kMkm s fun v9 s =>
 kBuild [(.string (bs [])), (.slice none 0 0), (.map none), (.int .i64 0)] [(0, 2, v8), (2, 1, v9)] fun v10 =>
 kNew s (cellsV v10) fun v11 s =>
 k v11 s
theorem F6_ok (zero_0 args_1 : Value) (s : AS) (k : Value → AS → Prop) : denFn Tryd.prog [] 6 [zero_0, args_1] s k = F6 zero_0 args_1 s k := by kernel_rfl
theorem f6 {zero_0 args_1 : Value} {s : AS} {k : Value → AS → Prop} (h : F6 zero_0 args_1 s k) : kCall Tryd.prog 6 [zero_0, args_1] s k := denFn_ok [] (cast (F6_ok zero_0 args_1 s k).symm h)
theorem k6_ok : okFn Tryd.prog 6 = true := by kernel_rfl

/- (*conch vars.Vars).Set -/
def F7 (v_0 name_1 value_2 : Value) (s : AS) (k : Value → AS → Prop) : Prop :=
 kNew s (cellsV value_2) fun value_5 s =>
 kCall Tryd.prog 17 [v_0, name_1, (.bool true), (.func (.func 18) #[] #[value_5])] s fun v10 s =>
 k v10 s
theorem F7_ok (v_0 name_1 value_2 : Value) (s : AS) (k : Value → AS → Prop) : denFn Tryd.prog [] 7 [v_0, name_1, value_2] s k = F7 v_0 name_1 value_2 s k := by kernel_rfl
theorem f7 {v_0 name_1 value_2 : Value} {s : AS} {k : Value → AS → Prop} (h : F7 v_0 name_1 value_2 s k) : kCall Tryd.prog 7 [v_0, name_1, value_2] s k := denFn_ok [] (cast (F7_ok v_0 name_1 value_2 s k).symm h)
theorem k7_ok : okFn Tryd.prog 7 = true := by kernel_rfl

/- (*conch vars.Vars).Get -/
def F8 (v_0 name_1 : Value) (s : AS) (k : Value → AS → Prop) : Prop :=
 kJoin (fun _ s =>
 kNck v_0 fun v10 =>
 kFld 2 v10 fun v11 =>
 kLd s v11 fun v12 =>
 kGen Tryd.prog (.lk 46 false) [v12, name_1] s fun v14 s =>
 kNew s [(.string (bs [])), (.string (bs [])), (.bool false), (.bool false), (.bool false)] fun x_6 s =>
 kSt s 5 x_6 v14 fun s =>
 kFld 1 x_6 fun v15 =>
 kFld 2 x_6 fun v17 =>
 kLd s v15 fun v16 =>
 kLd s v17 fun v18 =>
 k (.tuple #[v16, v18]) s) fun J1 =>
 kEq 0 false v_0 (.pointer none) fun v8 =>
 kCond v8 (
 k (.tuple #[(.string (bs [])), (.bool false)]) s) (
 J1 [] s)
theorem F8_ok (v_0 name_1 : Value) (s : AS) (k : Value → AS → Prop) : denFn Tryd.prog [(4, (.go 0 (.go 2 (.go 1 (.go 4 (.go 3 (.go 5 .done)))))))] 8 [v_0, name_1] s k = F8 v_0 name_1 s k := by kernel_rfl
theorem f8 {v_0 name_1 : Value} {s : AS} {k : Value → AS → Prop} (h : F8 v_0 name_1 s k) : kCall Tryd.prog 8 [v_0, name_1] s k := denFn_ok [(4, (.go 0 (.go 2 (.go 1 (.go 4 (.go 3 (.go 5 .done)))))))] (cast (F8_ok v_0 name_1 s k).symm h)
theorem k8_ok : okFn Tryd.prog 8 = true := by kernel_rfl

/- (*conch vars.Vars).Readonly -/
def F9 (v_0 name_1 : Value) (s : AS) (k : Value → AS → Prop) : Prop :=
 kCall Tryd.prog 17 [v_0, name_1, (.bool false), (.func (.func 19) #[] #[])] s fun v7 s =>
 k v7 s
theorem F9_ok (v_0 name_1 : Value) (s : AS) (k : Value → AS → Prop) : denFn Tryd.prog [] 9 [v_0, name_1] s k = F9 v_0 name_1 s k := by kernel_rfl
theorem f9 {v_0 name_1 : Value} {s : AS} {k : Value → AS → Prop} (h : F9 v_0 name_1 s k) : kCall Tryd.prog 9 [v_0, name_1] s k := denFn_ok [] (cast (F9_ok v_0 name_1 s k).symm h)
theorem k9_ok : okFn Tryd.prog 9 = true := by kernel_rfl

/- conch conchlaw08.do -/
def F10 (v_0 o_1 : Value) (s : AS) (k : Value → AS → Prop) : Prop :=
 kNew s (cellsV o_1) fun o_3 s =>
 kJoin (fun _ s =>
 kFld 1 o_3 fun v44 =>
 kLd s v44 fun v45 =>
 kFld 2 o_3 fun v46 =>
 kLd s v46 fun v47 =>
 kCall Tryd.prog 7 [v_0, v45, v47] s fun v48 s =>
 k v48 s) fun J1 =>
 kLdN s 5 o_3 fun v5 =>
 kCall Tryd.prog 11 [v5] s fun v6 s =>
 kBin .eql v6 (.int .i64 2) fun v8 =>
 kCond v8 (
 kFld 1 o_3 fun v10 =>
 kLd s v10 fun v11 =>
 kCall Tryd.prog 20 [v_0, v11] s fun v12 s =>
 k v12 s) (
 kBin .eql v6 (.int .i64 3) fun v14 =>
 kCond v14 (
 kFld 1 o_3 fun v16 =>
 kLd s v16 fun v17 =>
 kCall Tryd.prog 21 [v_0, v17] s fun v18 s =>
 k v18 s) (
 kBin .eql v6 (.int .i64 4) fun v20 =>
 kCond v20 (
 kFld 1 o_3 fun v22 =>
 kLd s v22 fun v23 =>
 kCall Tryd.prog 9 [v_0, v23] s fun v24 s =>
 k v24 s) (
 kBin .eql v6 (.int .i64 5) fun v26 =>
 kCond v26 (
 kFld 4 o_3 fun v28 =>
 kLd s v28 fun v29 =>
 kCall Tryd.prog 22 [v_0, v29] s fun v30 s =>
 k (.int .i64 0) s) (
 kBin .eql v6 (.int .i64 6) fun v32 =>
 kCond v32 (
 kFld 3 o_3 fun v34 =>
 kLd s v34 fun v35 =>
 kCall Tryd.prog 14 [v_0, v35] s fun v36 s =>
 k v36 s) (
 kBin .eql v6 (.int .i64 7) fun v38 =>
 kCond v38 (
 kFld 3 o_3 fun v40 =>
 kLd s v40 fun v41 =>
 kCall Tryd.prog 23 [v_0, v41] s fun v42 s =>
 k (.int .i64 0) s) (
 J1 [] s))))))
theorem F10_ok (v_0 o_1 : Value) (s : AS) (k : Value → AS → Prop) : denFn Tryd.prog [] 10 [v_0, o_1] s k = F10 v_0 o_1 s k := by kernel_rfl
theorem f10 {v_0 o_1 : Value} {s : AS} {k : Value → AS → Prop} (h : F10 v_0 o_1 s k) : kCall Tryd.prog 10 [v_0, o_1] s k := denFn_ok [] (cast (F10_ok v_0 o_1 s k).symm h)
theorem k10_ok : okFn Tryd.prog 10 = true := by kernel_rfl

/- conch conchlaw08.kind -/
def F11 (o_0 : Value) (s : AS) (k : Value → AS → Prop) : Prop :=
 kNew s (cellsV o_0) fun o_1 s =>
 kFld 0 o_1 fun v3 =>
 kLd s v3 fun v4 =>
 kBin .rem v4 (.int .i64 8) fun v5 =>
 kBin .add v5 (.int .i64 8) fun v6 =>
 kBin .rem v6 (.int .i64 8) fun v7 =>
 k v7 s
theorem F11_ok (o_0 : Value) (s : AS) (k : Value → AS → Prop) : denFn Tryd.prog [] 11 [o_0] s k = F11 o_0 s k := by kernel_rfl
theorem f11 {o_0 : Value} {s : AS} {k : Value → AS → Prop} (h : F11 o_0 s k) : kCall Tryd.prog 11 [o_0] s k := denFn_ok [] (cast (F11_ok o_0 s k).symm h)
theorem k11_ok : okFn Tryd.prog 11 = true := by kernel_rfl

/- conch conchlaw08.Texts -/
def F12 (l_0 : Value) (s : AS) (k : Value → AS → Prop) : Prop :=
 kJoin (fun _ s =>
 kJoin (fun _ s =>
 k (.bool true) s) fun J2 =>
 kLoop (fun again3 xs s =>
 un1 xs fun i_3 =>
 kJoin (fun _ s =>
 kJoin (fun _ s =>
 kBin .add i_3 (.int .i64 1) fun v12 =>
 again3 [v12] s) fun J5 =>
 kIdx 1 l_0 i_3 fun v15 =>
 kLd s v15 fun v16 =>
 kLen true v16 fun v17 =>
 kBin .gtr v17 (.int .i64 200) fun v18 =>
 kCond v18 (
 k (.bool false) s) (
 J5 [] s)) fun J4 =>
 kLen false l_0 fun v9 =>
 kBin .lss i_3 v9 fun v10 =>
 kCond v10 (
 J4 [] s) (
 J2 [] s)) [(.int .i64 0)] s) fun J1 =>
 kLen false l_0 fun v5 =>
 kBin .gtr v5 (.int .i64 20) fun v6 =>
 kCond v6 (
 k (.bool false) s) (
 J1 [] s)
theorem F12_ok (l_0 : Value) (s : AS) (k : Value → AS → Prop) : denFn Tryd.prog [] 12 [l_0] s k = F12 l_0 s k := by kernel_rfl
theorem f12 {l_0 : Value} {s : AS} {k : Value → AS → Prop} (h : F12 l_0 s k) : kCall Tryd.prog 12 [l_0] s k := denFn_ok [] (cast (F12_ok l_0 s k).symm h)
theorem k12_ok : okFn Tryd.prog 12 = true := by kernel_rfl

/- (*conch vars.Vars).Param -/
def F13 (v_0 p_1 : Value) (s : AS) (k : Value → AS → Prop) : Prop :=
 kJoin (fun _ s =>
 kJoin (fun _ s =>
 kJoin (fun _ s =>
 kNck v_0 fun v49 =>
 kFld 0 v49 fun v50 =>
 kCall Tryd.prog 27 [v50, p_1] s fun v52 s =>
 kExt 0 v52 fun v53 =>
 kExt 1 v52 fun v54 =>
 k (.tuple #[v53, v54]) s) fun J3 =>
 kCall Tryd.prog 26 [p_1] s fun v42 s =>
 kCond v42 (
 kCall Tryd.prog 8 [v_0, p_1] s fun v45 s =>
 kExt 0 v45 fun v46 =>
 kExt 1 v45 fun v47 =>
 k (.tuple #[v46, v47]) s) (
 J3 [] s)) fun J2 =>
 kBin .eql p_1 (.string (bs [35])) fun v10 =>
 kCond v10 (
 kNck v_0 fun v12 =>
 kFld 0 v12 fun v13 =>
 kFld 1 v13 fun v14 =>
 kLd s v14 fun v15 =>
 kLen false v15 fun v16 =>
 kCall Tryd.prog 24 [v16] s fun v17 s =>
 k (.tuple #[v17, (.bool true)]) s) (
 kBin .eql p_1 (.string (bs [63])) fun v19 =>
 kCond v19 (
 kNck v_0 fun v21 =>
 kFld 3 v21 fun v22 =>
 kLd s v22 fun v23 =>
 kCall Tryd.prog 24 [v23] s fun v24 s =>
 k (.tuple #[v24, (.bool true)]) s) (
 kJoin (fun xs s =>
 un1 xs fun v25 =>
 kCond v25 (
 kNck v_0 fun v29 =>
 kFld 0 v29 fun v30 =>
 kFld 1 v30 fun v31 =>
 kNck v_0 fun v35 =>
 kFld 0 v35 fun v36 =>
 kFld 1 v36 fun v37 =>
 kLd s v31 fun v32 =>
 kLd s v37 fun v38 =>
 kLen false v38 fun v39 =>
 kBin .gtr v39 (.int .i64 0) fun v40 =>
 kCall Tryd.prog 25 [(.string (bs [32])), v32] s fun v33 s =>
 kChk s v37 v38 (
 k (.tuple #[v33, v40]) s)) (
 J2 [] s)) fun J4 =>
 kBin .eql p_1 (.string (bs [64])) fun v26 =>
 kCond v26 (
 J4 [v26] s) (
 kBin .eql p_1 (.string (bs [42])) fun v27 =>
 J4 [v27] s)))) fun J1 =>
 kEq 0 false v_0 (.pointer none) fun v7 =>
 kCond v7 (
 k (.tuple #[(.string (bs [])), (.bool false)]) s) (
 J1 [] s)
theorem F13_ok (v_0 p_1 : Value) (s : AS) (k : Value → AS → Prop) : denFn Tryd.prog [(10, (.go 0 (.go 1 (.go 2 (.go 3 (.go 6 (.go 7 (.go 8 (.go 9 (.go 4 (.go 10 (.go 11 (.go 12 (.go 5 (.go 13 (.go 14 .done))))))))))))))))] 13 [v_0, p_1] s k = F13 v_0 p_1 s k := by kernel_rfl
theorem f13 {v_0 p_1 : Value} {s : AS} {k : Value → AS → Prop} (h : F13 v_0 p_1 s k) : kCall Tryd.prog 13 [v_0, p_1] s k := denFn_ok [(10, (.go 0 (.go 1 (.go 2 (.go 3 (.go 6 (.go 7 (.go 8 (.go 9 (.go 4 (.go 10 (.go 11 (.go 12 (.go 5 (.go 13 (.go 14 .done))))))))))))))))] (cast (F13_ok v_0 p_1 s k).symm h)
theorem k13_ok : okFn Tryd.prog 13 = true := by kernel_rfl

/- (*conch vars.Vars).Shift -/
def F14 (v_0 n_1 : Value) (s : AS) (k : Value → AS → Prop) : Prop :=
 kJoin (fun _ s =>
 kNck v_0 fun v8 =>
 kFld 0 v8 fun v9 =>
 kCall Tryd.prog 28 [v9, n_1] s fun v11 s =>
 k v11 s) fun J1 =>
 kEq 0 false v_0 (.pointer none) fun v6 =>
 kCond v6 (
 k (.int .i64 2) s) (
 J1 [] s)
theorem F14_ok (v_0 n_1 : Value) (s : AS) (k : Value → AS → Prop) : denFn Tryd.prog [] 14 [v_0, n_1] s k = F14 v_0 n_1 s k := by kernel_rfl
theorem f14 {v_0 n_1 : Value} {s : AS} {k : Value → AS → Prop} (h : F14 v_0 n_1 s k) : kCall Tryd.prog 14 [v_0, n_1] s k := denFn_ok [] (cast (F14_ok v_0 n_1 s k).symm h)
theorem k14_ok : okFn Tryd.prog 14 = true := by kernel_rfl

/- (*conch vars.Vars).Args -/
def F15 (v_0 : Value) (s : AS) (k : Value → AS → Prop) : Prop :=
 kJoin (fun _ s =>
 kNck v_0 fun v6 =>
 kFld 0 v6 fun v7 =>
 kFld 1 v7 fun v8 =>
 kLd s v8 fun v9 =>
 kCall Tryd.prog 16 [v9] s fun v10 s =>
 k v10 s) fun J1 =>
 kEq 0 false v_0 (.pointer none) fun v4 =>
 kCond v4 (
 k (.slice none 0 0) s) (
 J1 [] s)
theorem F15_ok (v_0 : Value) (s : AS) (k : Value → AS → Prop) : denFn Tryd.prog [] 15 [v_0] s k = F15 v_0 s k := by kernel_rfl
theorem f15 {v_0 : Value} {s : AS} {k : Value → AS → Prop} (h : F15 v_0 s k) : kCall Tryd.prog 15 [v_0] s k := denFn_ok [] (cast (F15_ok v_0 s k).symm h)
theorem k15_ok : okFn Tryd.prog 15 = true := by kernel_rfl

/- slices.Clone[[]string,string] -/
def F16 (s_0 : Value) (s : AS) (k : Value → AS → Prop) : Prop :=
 kJoin (fun _ s =>
 kBsl s 0 [] [] fun v5 s =>
 kApp Tryd.prog 35 35 v5 s_0 s fun v7 s =>
 k v7 s) fun J1 =>
 kEq 1 false s_0 (.slice none 0 0) fun v4 =>
 kCond v4 (
 k (.slice none 0 0) s) (
 J1 [] s)
theorem F16_ok (s_0 : Value) (s : AS) (k : Value → AS → Prop) : denFn Tryd.prog [] 16 [s_0] s k = F16 s_0 s k := by kernel_rfl
theorem f16 {s_0 : Value} {s : AS} {k : Value → AS → Prop} (h : F16 s_0 s k) : kCall Tryd.prog 16 [s_0] s k := denFn_ok [] (cast (F16_ok s_0 s k).symm h)
theorem k16_ok : okFn Tryd.prog 16 = true := by kernel_rfl

/- (*conch vars.Vars).turn -/
def F17 (v_0 name_1 writes_2 how_3 : Value) (s : AS) (k : Value → AS → Prop) : Prop :=
 kJoin (fun _ s =>
 kNck v_0 fun v29 =>
 kFld 2 v29 fun v30 =>
 kLd s v30 fun v31 =>
 kGen Tryd.prog (.lk 46 false) [v31, name_1] s fun v33 s =>
 kNew s [(.string (bs [])), (.string (bs [])), (.bool false), (.bool false), (.bool false)] fun x_9 s =>
 kSt s 5 x_9 v33 fun s =>
 kFld 0 x_9 fun v35 =>
 kSt s 1 v35 name_1 fun s =>
 kCallv Tryd.prog how_3 [x_9] s fun v37 s =>
 kNck v_0 fun v39 =>
 kFld 2 v39 fun v40 =>
 kLd s v40 fun v41 =>
 kLdN s 5 x_9 fun v43 =>
 kGen Tryd.prog (.mup 46) [v41, name_1, v43] s fun _ s =>
 kJoin (fun _ s =>
 k (.int .i64 0) s) fun J2 =>
 kFld 2 x_9 fun v44 =>
 kLd s v44 fun v45 =>
 kUn .not v45 fun v46 =>
 kGrd v46 true (fun k =>
 kFld 3 x_9 fun v48 =>
 kLd s v48 fun v49 =>
 kUn .not v49 fun v50 =>
 k [v50] s) [undef] s fun xs s =>
 un1 xs fun v50 =>
 kPick v46 v50 (.bool false) fun v51 =>
 kGrd v51 true (fun k =>
 kFld 4 x_9 fun v53 =>
 kLd s v53 fun v54 =>
 kUn .not v54 fun v55 =>
 k [v55] s) [undef] s fun xs s =>
 un1 xs fun v55 =>
 kPick v51 v55 (.bool false) fun v56 =>
 kCond v56 (
 kNck v_0 fun v58 =>
 kFld 2 v58 fun v59 =>
 kLd s v59 fun v60 =>
 kGen Tryd.prog (.blt .delete [46, 9] 0) [v60, name_1] s fun _ s =>
 J2 [] s) (
 J2 [] s)) fun J1 =>
 kEq 0 false v_0 (.pointer none) fun v12 =>
 kCond v12 (
 k (.int .i64 2) s) (
 kCall Tryd.prog 26 [name_1] s fun v15 s =>
 kUn .not v15 fun v16 =>
 kCond v16 (
 k (.int .i64 16) s) (
 kGrd writes_2 true (fun k =>
 kNck v_0 fun v21 =>
 kFld 2 v21 fun v22 =>
 kLd s v22 fun v23 =>
 kGen Tryd.prog (.lk 46 false) [v23, name_1] s fun v25 s =>
 kGet 4 v25 fun v26 =>
 k [v26] s) [undef] s fun xs s =>
 un1 xs fun v26 =>
 kPick writes_2 v26 (.bool false) fun v27 =>
 kCond v27 (
 k (.int .i64 15) s) (
 J1 [] s)))
theorem F17_ok (v_0 name_1 writes_2 how_3 : Value) (s : AS) (k : Value → AS → Prop) : denFn Tryd.prog [(10, (.go 0 (.go 1 (.go 2 (.go 4 (.go 3 (.go 5 (.go 6 .done))))))))] 17 [v_0, name_1, writes_2, how_3] s k = F17 v_0 name_1 writes_2 how_3 s k := by kernel_rfl
theorem f17 {v_0 name_1 writes_2 how_3 : Value} {s : AS} {k : Value → AS → Prop} (h : F17 v_0 name_1 writes_2 how_3 s k) : kCall Tryd.prog 17 [v_0, name_1, writes_2, how_3] s k := denFn_ok [(10, (.go 0 (.go 1 (.go 2 (.go 4 (.go 3 (.go 5 (.go 6 .done))))))))] (cast (F17_ok v_0 name_1 writes_2 how_3 s k).symm h)
theorem k17_ok : okFn Tryd.prog 17 = true := by kernel_rfl

/- (*conch vars.Vars).Set$1 -/
def F18 (x_0 v1 : Value) (s : AS) (k : Value → AS → Prop) : Prop :=
 kLd s v1 fun v5 =>
 kNck x_0 fun v6 =>
 kFld 1 v6 fun v7 =>
 kSt s 1 v7 v5 fun s =>
 kNck x_0 fun v8 =>
 kFld 2 v8 fun v9 =>
 kSt s 1 v9 (.bool true) fun s =>
 k undef s
theorem F18_ok (x_0 v1 : Value) (s : AS) (k : Value → AS → Prop) : denFn Tryd.prog [] 18 [x_0, v1] s k = F18 x_0 v1 s k := by kernel_rfl
theorem f18 {x_0 v1 : Value} {s : AS} {k : Value → AS → Prop} (h : F18 x_0 v1 s k) : kCall Tryd.prog 18 [x_0, v1] s k := denFn_ok [] (cast (F18_ok x_0 v1 s k).symm h)
theorem k18_ok : okFn Tryd.prog 18 = true := by kernel_rfl

/- (*conch vars.Vars).Readonly$1 -/
def F19 (x_0 : Value) (s : AS) (k : Value → AS → Prop) : Prop :=
 kNck x_0 fun v3 =>
 kFld 4 v3 fun v4 =>
 kSt s 1 v4 (.bool true) fun s =>
 k undef s
theorem F19_ok (x_0 : Value) (s : AS) (k : Value → AS → Prop) : denFn Tryd.prog [] 19 [x_0] s k = F19 x_0 s k := by kernel_rfl
theorem f19 {x_0 : Value} {s : AS} {k : Value → AS → Prop} (h : F19 x_0 s k) : kCall Tryd.prog 19 [x_0] s k := denFn_ok [] (cast (F19_ok x_0 s k).symm h)
theorem k19_ok : okFn Tryd.prog 19 = true := by kernel_rfl

/- (*conch vars.Vars).Unset -/
def F20 (v_0 name_1 : Value) (s : AS) (k : Value → AS → Prop) : Prop :=
 kCall Tryd.prog 17 [v_0, name_1, (.bool true), (.func (.func 29) #[] #[])] s fun v7 s =>
 k v7 s
theorem F20_ok (v_0 name_1 : Value) (s : AS) (k : Value → AS → Prop) : denFn Tryd.prog [] 20 [v_0, name_1] s k = F20 v_0 name_1 s k := by kernel_rfl
theorem f20 {v_0 name_1 : Value} {s : AS} {k : Value → AS → Prop} (h : F20 v_0 name_1 s k) : kCall Tryd.prog 20 [v_0, name_1] s k := denFn_ok [] (cast (F20_ok v_0 name_1 s k).symm h)
theorem k20_ok : okFn Tryd.prog 20 = true := by kernel_rfl

/- (*conch vars.Vars).Export -/
def F21 (v_0 name_1 : Value) (s : AS) (k : Value → AS → Prop) : Prop :=
 kCall Tryd.prog 17 [v_0, name_1, (.bool false), (.func (.func 30) #[] #[])] s fun v7 s =>
 k v7 s
theorem F21_ok (v_0 name_1 : Value) (s : AS) (k : Value → AS → Prop) : denFn Tryd.prog [] 21 [v_0, name_1] s k = F21 v_0 name_1 s k := by kernel_rfl
theorem f21 {v_0 name_1 : Value} {s : AS} {k : Value → AS → Prop} (h : F21 v_0 name_1 s k) : kCall Tryd.prog 21 [v_0, name_1] s k := denFn_ok [] (cast (F21_ok v_0 name_1 s k).symm h)
theorem k21_ok : okFn Tryd.prog 21 = true := by kernel_rfl

/- (*conch vars.Vars).SetArgs -/
def F22 (v_0 args_1 : Value) (s : AS) (k : Value → AS → Prop) : Prop :=
 kEq 0 true v_0 (.pointer none) fun v5 =>
 kCond v5 (
 kCall Tryd.prog 16 [args_1] s fun v8 s =>
 kNck v_0 fun v9 =>
 kFld 0 v9 fun v10 =>
 kFld 1 v10 fun v11 =>
 kSt s 1 v11 v8 fun s =>
 k undef s) (
 k undef s)
theorem F22_ok (v_0 args_1 : Value) (s : AS) (k : Value → AS → Prop) : denFn Tryd.prog [] 22 [v_0, args_1] s k = F22 v_0 args_1 s k := by kernel_rfl
theorem f22 {v_0 args_1 : Value} {s : AS} {k : Value → AS → Prop} (h : F22 v_0 args_1 s k) : kCall Tryd.prog 22 [v_0, args_1] s k := denFn_ok [] (cast (F22_ok v_0 args_1 s k).symm h)
theorem k22_ok : okFn Tryd.prog 22 = true := by kernel_rfl

/- (*conch vars.Vars).SetStatus -/
def F23 (v_0 n_1 : Value) (s : AS) (k : Value → AS → Prop) : Prop :=
 kEq 0 true v_0 (.pointer none) fun v5 =>
 kCond v5 (
 kNck v_0 fun v8 =>
 kFld 3 v8 fun v9 =>
 kSt s 1 v9 n_1 fun s =>
 k undef s) (
 k undef s)
theorem F23_ok (v_0 n_1 : Value) (s : AS) (k : Value → AS → Prop) : denFn Tryd.prog [] 23 [v_0, n_1] s k = F23 v_0 n_1 s k := by kernel_rfl
theorem f23 {v_0 n_1 : Value} {s : AS} {k : Value → AS → Prop} (h : F23 v_0 n_1 s k) : kCall Tryd.prog 23 [v_0, n_1] s k := denFn_ok [] (cast (F23_ok v_0 n_1 s k).symm h)
theorem k23_ok : okFn Tryd.prog 23 = true := by kernel_rfl

/- conch chars.Text -/
def F24 (n_0 : Value) (s : AS) (k : Value → AS → Prop) : Prop :=
 kCall Tryd.prog 31 [n_0] s fun v4 s =>
 k v4 s
theorem F24_ok (n_0 : Value) (s : AS) (k : Value → AS → Prop) : denFn Tryd.prog [] 24 [n_0] s k = F24 n_0 s k := by kernel_rfl
theorem f24 {n_0 : Value} {s : AS} {k : Value → AS → Prop} (h : F24 n_0 s k) : kCall Tryd.prog 24 [n_0] s k := denFn_ok [] (cast (F24_ok n_0 s k).symm h)
theorem k24_ok : okFn Tryd.prog 24 = true := by kernel_rfl

/- conch chars.Join -/
def F25 (by_0 l_1 : Value) (s : AS) (k : Value → AS → Prop) : Prop :=
 kCall Tryd.prog 32 [l_1, by_0] s fun v7 s =>
 k v7 s
theorem F25_ok (by_0 l_1 : Value) (s : AS) (k : Value → AS → Prop) : denFn Tryd.prog [] 25 [by_0, l_1] s k = F25 by_0 l_1 s k := by kernel_rfl
theorem f25 {by_0 l_1 : Value} {s : AS} {k : Value → AS → Prop} (h : F25 by_0 l_1 s k) : kCall Tryd.prog 25 [by_0, l_1] s k := denFn_ok [] (cast (F25_ok by_0 l_1 s k).symm h)
theorem k25_ok : okFn Tryd.prog 25 = true := by kernel_rfl

/- conch chars.Name -/
def F26 (s_0 : Value) (s : AS) (k : Value → AS → Prop) : Prop :=
 kBin .neq s_0 (.string (bs [])) fun v4 =>
 kGrd v4 true (fun k =>
 kCall Tryd.prog 33 [s_0] s fun v7 s =>
 kLen true s_0 fun v9 =>
 kBin .eql v7 v9 fun v10 =>
 k [v10] s) [undef] s fun xs s =>
 un1 xs fun v10 =>
 kPick v4 v10 (.bool false) fun v11 =>
 k v11 s
theorem F26_ok (s_0 : Value) (s : AS) (k : Value → AS → Prop) : denFn Tryd.prog [] 26 [s_0] s k = F26 s_0 s k := by kernel_rfl
theorem f26 {s_0 : Value} {s : AS} {k : Value → AS → Prop} (h : F26 s_0 s k) : kCall Tryd.prog 26 [s_0] s k := denFn_ok [] (cast (F26_ok s_0 s k).symm h)
theorem k26_ok : okFn Tryd.prog 26 = true := by kernel_rfl

/- (*conch vars.arguments).numbered -/
def F27 (a_0 p_1 : Value) (s : AS) (k : Value → AS → Prop) : Prop :=
 kNck a_0 fun v11 =>
 kFld 1 v11 fun v12 =>
 kLd s v12 fun v13 =>
 kLen false v13 fun v14 =>
 kCall Tryd.prog 34 [p_1, v14] s fun v15 s =>
 kExt 0 v15 fun v16 =>
 kExt 1 v15 fun v17 =>
 kJoin (fun _ s =>
 kNck a_0 fun v34 =>
 kFld 1 v34 fun v35 =>
 kLd s v35 fun v36 =>
 kBin .sub v16 (.int .i64 1) fun v38 =>
 kIdx 1 v36 v38 fun v39 =>
 kLd s v39 fun v40 =>
 k (.tuple #[v40, (.bool true)]) s) fun J1 =>
 kBin .eql p_1 (.string (bs [48])) fun v20 =>
 kCond v20 (
 kNck a_0 fun v22 =>
 kFld 0 v22 fun v23 =>
 kLd s v23 fun v24 =>
 k (.tuple #[v24, (.bool true)]) s) (
 kBin .neq v17 (.int .i64 0) fun v27 =>
 kGrd v27 false (fun k =>
 kIxS p_1 (.int .i64 0) fun v30 =>
 kBin .eql v30 (.int .u8 48) fun v31 =>
 k [v31] s) [undef] s fun xs s =>
 un1 xs fun v31 =>
 kPick v27 (.bool true) v31 fun v32 =>
 kCond v32 (
 k (.tuple #[(.string (bs [])), (.bool false)]) s) (
 J1 [] s))
theorem F27_ok (a_0 p_1 : Value) (s : AS) (k : Value → AS → Prop) : denFn Tryd.prog [] 27 [a_0, p_1] s k = F27 a_0 p_1 s k := by kernel_rfl
theorem f27 {a_0 p_1 : Value} {s : AS} {k : Value → AS → Prop} (h : F27 a_0 p_1 s k) : kCall Tryd.prog 27 [a_0, p_1] s k := denFn_ok [] (cast (F27_ok a_0 p_1 s k).symm h)
theorem k27_ok : okFn Tryd.prog 27 = true := by kernel_rfl

/- (*conch vars.arguments).shift -/
def F28 (a_0 n_1 : Value) (s : AS) (k : Value → AS → Prop) : Prop :=
 kJoin (fun _ s =>
 kNck a_0 fun v18 =>
 kFld 1 v18 fun v19 =>
 kLd s v19 fun v20 =>
 kSubL 1 v20 (some n_1) none fun v22 =>
 kNck a_0 fun v23 =>
 kFld 1 v23 fun v24 =>
 kSt s 1 v24 v22 fun s =>
 k (.int .i64 0) s) fun J1 =>
 kBin .lss n_1 (.int .i64 0) fun v6 =>
 kGrd v6 false (fun k =>
 kNck a_0 fun v10 =>
 kFld 1 v10 fun v11 =>
 kLd s v11 fun v12 =>
 kLen false v12 fun v13 =>
 kBin .gtr n_1 v13 fun v14 =>
 k [v14] s) [undef] s fun xs s =>
 un1 xs fun v14 =>
 kPick v6 (.bool true) v14 fun v15 =>
 kCond v15 (
 k (.int .i64 1) s) (
 J1 [] s)
theorem F28_ok (a_0 n_1 : Value) (s : AS) (k : Value → AS → Prop) : denFn Tryd.prog [] 28 [a_0, n_1] s k = F28 a_0 n_1 s k := by kernel_rfl
theorem f28 {a_0 n_1 : Value} {s : AS} {k : Value → AS → Prop} (h : F28 a_0 n_1 s k) : kCall Tryd.prog 28 [a_0, n_1] s k := denFn_ok [] (cast (F28_ok a_0 n_1 s k).symm h)
theorem k28_ok : okFn Tryd.prog 28 = true := by kernel_rfl

/- (*conch vars.Vars).Unset$1 -/
def F29 (x_0 : Value) (s : AS) (k : Value → AS → Prop) : Prop :=
 kBuild [(.string (bs [])), (.string (bs [])), (.bool false), (.bool false), (.bool false)] [] fun v3 =>
 kNck x_0 fun v4 =>
 kSt s 5 v4 v3 fun s =>
 k undef s
theorem F29_ok (x_0 : Value) (s : AS) (k : Value → AS → Prop) : denFn Tryd.prog [] 29 [x_0] s k = F29 x_0 s k := by kernel_rfl
theorem f29 {x_0 : Value} {s : AS} {k : Value → AS → Prop} (h : F29 x_0 s k) : kCall Tryd.prog 29 [x_0] s k := denFn_ok [] (cast (F29_ok x_0 s k).symm h)
theorem k29_ok : okFn Tryd.prog 29 = true := by kernel_rfl

/- (*conch vars.Vars).Export$1 -/
def F30 (x_0 : Value) (s : AS) (k : Value → AS → Prop) : Prop :=
 kNck x_0 fun v3 =>
 kFld 3 v3 fun v4 =>
 kSt s 1 v4 (.bool true) fun s =>
 k undef s
theorem F30_ok (x_0 : Value) (s : AS) (k : Value → AS → Prop) : denFn Tryd.prog [] 30 [x_0] s k = F30 x_0 s k := by kernel_rfl
theorem f30 {x_0 : Value} {s : AS} {k : Value → AS → Prop} (h : F30 x_0 s k) : kCall Tryd.prog 30 [x_0] s k := denFn_ok [] (cast (F30_ok x_0 s k).symm h)
theorem k30_ok : okFn Tryd.prog 30 = true := by kernel_rfl

/- conch chars.Front -/
def F33 (s_0 : Value) (s : AS) (k : Value → AS → Prop) : Prop :=
 kJoin (fun xs s =>
 un1 xs fun n_3 =>
 k n_3 s) fun J1 =>
 kLoop (fun again2 xs s =>
 un1 xs fun n_3 =>
 kJoin (fun _ s =>
 kBin .add n_3 (.int .i64 1) fun v25 =>
 again2 [v25] s) fun J3 =>
 kLen true s_0 fun v6 =>
 kBin .lss n_3 v6 fun v7 =>
 kGrd v7 true (fun k =>
 kIxS s_0 n_3 fun v11 =>
 kCall Tryd.prog 39 [v11] s fun v12 s =>
 k [v12] s) [undef] s fun xs s =>
 un1 xs fun v13 =>
 kGrd v13 false (fun k =>
 kBin .gtr n_3 (.int .i64 0) fun v15 =>
 k [v15] s) [undef] s fun xs s =>
 un1 xs fun v16 =>
 kGrd v16 true (fun k =>
 kIxS s_0 n_3 fun v19 =>
 kCall Tryd.prog 40 [v19] s fun v20 s =>
 k [v20] s) [undef] s fun xs s =>
 un1 xs fun v20 =>
 kGrd v13 false (fun k =>
 kPick v16 v20 (.bool false) fun v21 =>
 k [v21] s) [undef] s fun xs s =>
 un1 xs fun v21 =>
 kGrd v7 true (fun k =>
 kPick v13 (.bool true) v21 fun v22 =>
 k [v22] s) [undef] s fun xs s =>
 un1 xs fun v22 =>
 kPick v7 v22 (.bool false) fun v23 =>
 kCond v23 (
 J3 [] s) (
 J1 [n_3] s)) [(.int .i64 0)] s
theorem F33_ok (s_0 : Value) (s : AS) (k : Value → AS → Prop) : denFn Tryd.prog [] 33 [s_0] s k = F33 s_0 s k := by kernel_rfl
theorem f33 {s_0 : Value} {s : AS} {k : Value → AS → Prop} (h : F33 s_0 s k) : kCall Tryd.prog 33 [s_0] s k := denFn_ok [] (cast (F33_ok s_0 s k).symm h)
theorem k33_ok : okFn Tryd.prog 33 = true := by kernel_rfl

/- conch chars.Number -/
def F34 (s_0 most_1 : Value) (s : AS) (k : Value → AS → Prop) : Prop :=
 kJoin (fun _ s =>
 kCall Tryd.prog 42 [s_0] s fun v17 s =>
 kExt 0 v17 fun v18 =>
 kExt 1 v17 fun v19 =>
 kJoin (fun _ s =>
 k (.tuple #[v18, (.int .i64 0)]) s) fun J2 =>
 kEqi true v19 .nilIface fun v21 =>
 kGrd v21 false (fun k =>
 kBin .gtr v18 most_1 fun v25 =>
 k [v25] s) [undef] s fun xs s =>
 un1 xs fun v25 =>
 kPick v21 (.bool true) v25 fun v26 =>
 kCond v26 (
 k (.tuple #[(.int .i64 0), (.int .i64 3)]) s) (
 J2 [] s)) fun J1 =>
 kBin .eql s_0 (.string (bs [])) fun v9 =>
 kGrd v9 false (fun k =>
 kCall Tryd.prog 41 [s_0, (.string (bs [48, 49, 50, 51, 52, 53, 54, 55, 56, 57]))] s fun v12 s =>
 kBin .neq v12 (.string (bs [])) fun v13 =>
 k [v13] s) [undef] s fun xs s =>
 un1 xs fun v13 =>
 kPick v9 (.bool true) v13 fun v14 =>
 kCond v14 (
 k (.tuple #[(.int .i64 0), (.int .i64 10)]) s) (
 J1 [] s)
theorem F34_ok (s_0 most_1 : Value) (s : AS) (k : Value → AS → Prop) : denFn Tryd.prog [] 34 [s_0, most_1] s k = F34 s_0 most_1 s k := by kernel_rfl
theorem f34 {s_0 most_1 : Value} {s : AS} {k : Value → AS → Prop} (h : F34 s_0 most_1 s k) : kCall Tryd.prog 34 [s_0, most_1] s k := denFn_ok [] (cast (F34_ok s_0 most_1 s k).symm h)
theorem k34_ok : okFn Tryd.prog 34 = true := by kernel_rfl

/- conch chars.Alpha -/
def F39 (c_0 : Value) (s : AS) (k : Value → AS → Prop) : Prop :=
 kBin .eql c_0 (.int .u8 95) fun v4 =>
 kGrd v4 false (fun k =>
 kBin .or c_0 (.int .u8 32) fun v7 =>
 kBin .geq v7 (.int .u8 97) fun v8 =>
 k [v8] s) [undef] s fun xs s =>
 un1 xs fun v9 =>
 kGrd v9 true (fun k =>
 kBin .or c_0 (.int .u8 32) fun v11 =>
 kBin .leq v11 (.int .u8 122) fun v12 =>
 k [v12] s) [undef] s fun xs s =>
 un1 xs fun v12 =>
 kGrd v4 false (fun k =>
 kPick v9 v12 (.bool false) fun v13 =>
 k [v13] s) [undef] s fun xs s =>
 un1 xs fun v13 =>
 kPick v4 (.bool true) v13 fun v14 =>
 k v14 s
theorem F39_ok (c_0 : Value) (s : AS) (k : Value → AS → Prop) : denFn Tryd.prog [] 39 [c_0] s k = F39 c_0 s k := by kernel_rfl
theorem f39 {c_0 : Value} {s : AS} {k : Value → AS → Prop} (h : F39 c_0 s k) : kCall Tryd.prog 39 [c_0] s k := denFn_ok [] (cast (F39_ok c_0 s k).symm h)
theorem k39_ok : okFn Tryd.prog 39 = true := by kernel_rfl

/- conch chars.Digit -/
def F40 (c_0 : Value) (s : AS) (k : Value → AS → Prop) : Prop :=
 kBin .geq c_0 (.int .u8 48) fun v4 =>
 kGrd v4 true (fun k =>
 kBin .leq c_0 (.int .u8 57) fun v7 =>
 k [v7] s) [undef] s fun xs s =>
 un1 xs fun v7 =>
 kPick v4 v7 (.bool false) fun v8 =>
 k v8 s
theorem F40_ok (c_0 : Value) (s : AS) (k : Value → AS → Prop) : denFn Tryd.prog [] 40 [c_0] s k = F40 c_0 s k := by kernel_rfl
theorem f40 {c_0 : Value} {s : AS} {k : Value → AS → Prop} (h : F40 c_0 s k) : kCall Tryd.prog 40 [c_0] s k := denFn_ok [] (cast (F40_ok c_0 s k).symm h)
theorem k40_ok : okFn Tryd.prog 40 = true := by kernel_rfl

end Go.Proofs.YtkpnackmijjciaaDoor
